/- Parts of the proof: X76. -/
import Derived.Test.YtbpfhclcjedkcaaSm40
namespace Go.Proofs.Ytbpfhclcjedkcaa
open Go.RowKit
/-! ### msg.Decode -/
set_option maxRecDepth 100000 in
set_option maxHeartbeats 12800000 in
theorem msgDecode_any {ba : Option Addr} {bc n : Nat} {bs : List Nat} {w : World} (hn : Hid (bs.length = n)) (hl : n ≤ 549755813888) (hby : ∀ b ∈ bs, b < 256) (hrow : ByteRow w ba bs) :
    Calls Try.prog 39 #[.slice ba n bc] w fun e w' => ∃ A, e = .returned (.tuple #[.agg (ML A (rMsg bs).1).toArray, .int .i64 (rMsg bs).2]) ∧ MsgO w' w.heap.size A (rMsg bs).1 ∧ DecOk (rMsg bs).1 ∧ Below w.heap.size w w' := by
  obtain ⟨W1, hW1⟩ : ∃ W1, w.alloc (.cells #[.int .i64 0, .int .u16 0, .int .u32 0, .int .u64 0, .int .u64 0, .int .u64 0, .int .i64 0, .int .u32 0, .int .u16 0, .int .u32 0, .int .u32 0, .int .u16 0, .int .u32 0, .bool false, .int .i64 0, .int .u16 0, .int .u32 0, .int .u64 0, .int .u64 0, .slice none 0 0, .int .u64 0, .slice none 0 0, .slice none 0 0, .slice none 0 0, .int .u64 0, .slice none 0 0, .slice none 0 0, .slice none 0 0, .slice none 0 0] 46) = W1 := ⟨_, rfl⟩
  have hB1 : Below w.heap.size w W1 := by rw [← hW1]; exact (Below.refl _ _).alloc (Nat.le_refl _) _
  have hz1 : W1.heap.size = w.heap.size + 1 := by rw [← hW1]; simp
  have xR : OutL W1 w.heap.size (ML zeroA zeroM) := by rw [← hW1]; exact ownZ w
  have RD := hid (read_any (c := bc) hn hl hby (hrow.ext hB1))
  have HB1 := hid hB1
  have HZ1 := hid hz1
  have HXR := hid xR
  have HBY := hid hby
  clear hB1 hz1 xR hby hrow
  go_enter Try.func39, Try.ntmps39
  go_wp2_with fail
  (with_reducible refine RD.out.mono ?_)
  rintro e w2 ⟨s, rfl, hs, ⟨a2, c2, hR2⟩, hb2⟩
  obtain ⟨⟨k, S1⟩, hk⟩ : ∃ r, rNum 14 ⟨bs, 0⟩ = r := ⟨_, rfl⟩
  have hk14 : k ≤ 14 := by have := rNum_le (most := 14) (S := ⟨bs, 0⟩); rw [hk] at this; exact this
  have ek : IntKind.i64.wrap ((k : Nat) : Int) = ((k : Nat) : Int) := by rw [IntKind.wrap_i64] <;> omega
  have CN := hid (rNumP_is (z := 14) rfl (hid hk) hR2 (by decide))
  have HB2 := hid hb2
  have HSZ : Hid (W1.heap.size ≤ s) := hid hs
  have HSW : Hid (s < w2.heap.size) := hid hR2.lt
  have HK := hid hk
  clear hR2 hb2 hs hk RD hW1
  go_wp2_with fail
  (with_reducible refine CN.out.mono ?_)
  rintro e w3 ⟨rfl, ⟨a3, c3, hR3⟩, hm3⟩
  obtain ⟨q, hq⟩ : ∃ q, w3.heap.size = q := ⟨_, rfl⟩
  obtain ⟨WZ, hWZ⟩ : ∃ WZ, w3.alloc (.cells #[.int .i64 0, .int .u16 0, .int .u32 0, .int .u64 0, .int .u64 0, .int .u64 0, .int .i64 0, .int .u32 0, .int .u16 0, .int .u32 0, .int .u32 0, .int .u16 0, .int .u32 0, .bool false, .int .i64 0, .int .u16 0, .int .u32 0, .int .u64 0, .int .u64 0, .slice none 0 0, .int .u64 0, .slice none 0 0, .slice none 0 0, .slice none 0 0, .int .u64 0, .slice none 0 0, .slice none 0 0, .slice none 0 0, .slice none 0 0] 46) = WZ := ⟨_, rfl⟩
  have oz : OutL WZ q (ML zeroA zeroM) := by rw [← hWZ, ← hq]; exact ownZ w3
  have hbz : Below w3.heap.size w3 WZ := by rw [← hWZ]; exact (Below.refl _ _).alloc (Nat.le_refl _) _
  have ht0 : WZ.there q 0 29 := oz.there (by rw [ML_len]; decide)
  obtain ⟨W4, hW4⟩ : ∃ W4, WZ.setCells q 0 (ML zeroA { zeroM with kind := (k : Int) }) = W4 := ⟨_, rfl⟩
  have ho4 : OutL W4 q (ML zeroA { zeroM with kind := (k : Int) }) := by
    have h1 := oz.sets (vs := ML zeroA { zeroM with kind := (k : Int) }) (o := 0) (by simp [ML_len])
    rw [hW4, setsZ] at h1
    exact h1
  have hb34 : Below w3.heap.size w3 W4 := by rw [← hW4]; exact below_setCells _ _ hbz (by omega)
  have hR4 := hR3.ext hb34
  have hsq : s < q := by have := hm3.size; have := HSW.out; omega
  have hmo4 : MsgO W4 (q + 1) zeroA { zeroM with kind := (k : Int) } := MsgO.zero _ _ rfl rfl rfl
  have hq0 : w.heap.size < s := by have := HSZ.out; have := HZ1.out; omega
  have hbw : Below w.heap.size w W4 := by
    have h12 := HB1.out.trans (HB2.out.mono HB1.out.size)
    have h3 : Below w.heap.size w w3 := h12.trans (hm3.below h12.size (fun k e => by have e : k = s := e; omega))
    exact h3.trans (hb34.mono h3.size)
  have hxr4 : OutL W4 w.heap.size (ML zeroA zeroM) := by
    have h2 := HXR.out.ext HB2.out (by rw [HZ1.out]; omega)
    have h3 := h2.mutT (by rw [ML_len]; decide) hm3 (by show ¬ w.heap.size = s; omega)
    exact h3.ext hb34 (h3.lt (by rw [ML_len]; decide))
  have o0 : W4.cell? ⟨q, 0, none⟩ = some (.int .i64 k) := ho4.cell rfl
  have HSQ := hid hsq
  have HQ := hid hq
  have HQ0 := hid hq0
  have HBW := hid hbw
  have HXR4 := hid hxr4
  obtain ⟨f, hf⟩ : ∃ f, flN (k : Int) = f := ⟨_, rfl⟩
  have HF := hid hf
  have hflt : f < 1024 := by rw [← hf]; exact flN_lt _
  have FL : Hid (∀ W, Calls Try.prog 90 #[.int .i64 k] W fun e w' => e = .returned (.int .u64 f) ∧ W = w') := hid fun W => by
    have := fields_any (k : Int) W
    rw [hf] at this; exact this
  have HO4 := hid ho4
  have HMO4 := hid hmo4
  have HRD4 := hid hR4
  clear hR3 hm3 oz hbz ho4 hb34 hR4 hsq hmo4 hq0 hbw hxr4 hf CN
  go_upto_if 18 with (first
    | (refine wpList_storeM (A := zeroA) (m := { zeroM with kind := (k : Int) }) ht0 rfl rfl (by rw [← HQ.out]; rfl) rfl ?_; rw [hW4])
    | (go_at_call 90; (with_reducible refine (FL.out _).mono ?_); rintro e wz ⟨rfl, rfl⟩))
  obtain ⟨r0, hr0⟩ : ∃ r, hb (k : Int) 0 = r := ⟨_, rfl⟩
  have HR0 := hid hr0
  obtain ⟨r1, hr1⟩ : ∃ r, hb (k : Int) 1 = r := ⟨_, rfl⟩
  have HR1 := hid hr1
  obtain ⟨r2, hr2⟩ : ∃ r, hb (k : Int) 2 = r := ⟨_, rfl⟩
  have HR2 := hid hr2
  obtain ⟨r3, hr3⟩ : ∃ r, hb (k : Int) 3 = r := ⟨_, rfl⟩
  have HR3 := hid hr3
  obtain ⟨r4, hr4⟩ : ∃ r, hb (k : Int) 4 = r := ⟨_, rfl⟩
  have HR4 := hid hr4
  obtain ⟨r5, hr5⟩ : ∃ r, hb (k : Int) 5 = r := ⟨_, rfl⟩
  have HR5 := hid hr5
  obtain ⟨r6, hr6⟩ : ∃ r, hb (k : Int) 6 = r := ⟨_, rfl⟩
  have HR6 := hid hr6
  obtain ⟨r7, hr7⟩ : ∃ r, hb (k : Int) 7 = r := ⟨_, rfl⟩
  have HR7 := hid hr7
  obtain ⟨r8, hr8⟩ : ∃ r, hb (k : Int) 8 = r := ⟨_, rfl⟩
  have HR8 := hid hr8
  obtain ⟨r9, hr9⟩ : ∃ r, hb (k : Int) 9 = r := ⟨_, rfl⟩
  have HR9 := hid hr9
  obtain ⟨x0, hx0⟩ : ∃ x0, rMsgHead ⟨bs, 0⟩ = x0 := ⟨_, rfl⟩
  have HX0 : Hid (x0 = ({ zeroM with kind := (k : Int) }, if flN (k : Int) = 0 then stop5 S1 else S1)) := hid (by rw [← hx0]; unfold rMsgHead; rw [HK.out])
  have HX0' := hid hx0
  clear hx0 o0 hWZ hW4 ht0 hr0 hr1 hr2 hr3 hr4 hr5 hr6 hr7 hr8 hr9
  go_cut [5] (fun s5 wx => s5 = .pointer (some ⟨q, 0, none⟩) ∧ DecSt W4 q s (decK (k : Int) x0 0) wx)
  case first =>
    by_cases hf0 : f = 0
    · have q1 : ((f : Int) == 0) = true := by rw [beq_iff_eq]; omega
      have HS0 : Hid (x0 = ({ zeroM with kind := (k : Int) }, stop5 S1)) := hid (by rw [HX0.out, HF.out, if_pos hf0])
      have ST := hid (stop5_any HRD4.out)
      clear hf0
      go_wp2_with fail
      (with_reducible refine ST.out.mono ?_)
      rintro e w5 ⟨rfl, hR5, hm5⟩
      have hst : DecSt W4 q s (decK (k : Int) x0 0) w5 := by
        show DecSt W4 q s x0 w5
        rw [HS0.out]
        exact ⟨zeroA, a3, c3, HO4.out.mutT (by rw [ML_len]; decide) hm5 (by show ¬ q = s; have := HSQ.out; omega), HMO4.out.mutT hm5 (fun k e => by have e : k = s := e; have := HSQ.out; omega), hR5, hm5.mono (fun k _ e => .inl e), DecOk.zero⟩
      have HST := hid hst
      clear hst hR5 hm5 ST
      go_wp2_with fail
      go_meet
      exact ⟨rfl, HST.out⟩
    · have q1 : ((f : Int) == 0) = false := by rw [beq_eq_false_iff_ne]; omega
      have HS0 : Hid (x0 = ({ zeroM with kind := (k : Int) }, S1)) := hid (by rw [HX0.out, HF.out, if_neg hf0])
      clear hf0
      go_wp2_with fail
      go_meet
      refine ⟨rfl, ?_⟩
      show DecSt W4 q s x0 W4
      rw [HS0.out]
      exact ⟨zeroA, a3, c3, HO4.out, HMO4.out, HRD4.out, Mut.refl _ _, DecOk.zero⟩
  case rest =>
  obtain ⟨rfl, hst⟩ := hcut
  rename World => wc
  have HST := hid hst
  clear hst HO4 HMO4 HRD4
  go_upto_if 22 with (go_at_call 92; (with_reducible refine (mhas0 HF HR0).mono ?_); rintro e wz ⟨rfl, rfl⟩)
  go_cut [5] (fun s5 wx => s5 = .pointer (some ⟨q, 0, none⟩) ∧ DecSt W4 q s (decK (k : Int) x0 1) wx)
  case first => as_aux_lemma =>
    cases r0
    case false =>
      have HEQ : Hid (decK (k : Int) x0 1 = decK (k : Int) x0 0) := hid (by rw [decK_succ, HR0.out]; rfl)
      go_wp2_with fail
      go_meet
      exact ⟨rfl, by rw [HEQ.out]; exact HST.out⟩
    case true =>
      obtain ⟨⟨m, S⟩, hxj⟩ : ∃ r, decK (k : Int) x0 0 = r := ⟨_, rfl⟩
      have HEQ : Hid (decK (k : Int) x0 1 = rFld 0 (m, S)) := hid (by rw [decK_succ, HR0.out, if_pos rfl, hxj])
      rw [hxj] at HST
      clear hxj
      obtain ⟨A, a, c, ho, hmo, hR, hm, hdk⟩ := HST.out
      have hDK := fun h6 => DecOk.fld (i := 0) hdk hR.byt h6
      have HDK := hid hDK
      have HQC : Hid (q + 1 ≤ wc.heap.size) := hid (by have := ho.lt (by rw [ML_len]; decide); omega)
      clear hDK hdk
      obtain ⟨⟨⟨px, py⟩, S1⟩, hx⟩ : ∃ r, rPid S = r := ⟨_, rfl⟩
      have CL := hid (rPid_any (hid hx) hR)
      have HFX : Hid (rFld 0 (m, S) = ({ m with who := (px, py) }, S1)) := hid (by simp [rFld, hx])
      go_wp2_with fail
      (with_reducible refine CL.out.mono ?_)
      rintro e w5 ⟨rfl, ⟨a5, c5, hR5⟩, hm5⟩
      have ho5 := ho.mutT (by rw [ML_len]; decide) hm5 (by show ¬ q = s; have := HSQ.out; omega)
      have hmo5 := hmo.mutT hm5 (fun k e => by have e : k = s := e; have := HSQ.out; omega)
      have hmm := hm.trans (hm5.mono (G := (fun k => k = s ∨ k = q)) (fun k _ e => .inl e))
      obtain ⟨u1, o1⟩ : ∃ u, w5.cell? ⟨q, 1, none⟩ = some u := ⟨_, ho5.cell rfl⟩
      have f1 := ho5.f 1
      obtain ⟨u2, o2⟩ : ∃ u, w5.cell? ⟨q, 2, none⟩ = some u := ⟨_, ho5.cell rfl⟩
      have f2 := ho5.f 2
      have HXN := hid hx
      have HO5 := hid ho5
      have HMO5 := hid hmo5
      have HR5 := hid hR5
      have HMM := hid hmm
      clear ho5 hmo5 hR5 hmm hm5 CL hx
      go_wp2_with fail
      go_meet
      refine ⟨rfl, ?_⟩
      have hdk2 := HDK.out (fun h => absurd h (by decide))
      rw [HEQ.out]
      rw [HFX.out] at hdk2 ⊢
      exact fin0 HSQ.out HO5.out HMO5.out HR5.out HMM.out hdk2
  case rest =>
  obtain ⟨rfl, hst⟩ := hcut
  rename World => wd0
  clear HST
  have HST := hid hst
  clear hst
  go_upto_if 27 with (go_at_call 92; (with_reducible refine (mhas1 HF HR1).mono ?_); rintro e wz ⟨rfl, rfl⟩)
  go_cut [5] (fun s5 wx => s5 = .pointer (some ⟨q, 0, none⟩) ∧ DecSt W4 q s (decK (k : Int) x0 2) wx)
  case first => as_aux_lemma =>
    cases r1
    case false =>
      have HEQ : Hid (decK (k : Int) x0 2 = decK (k : Int) x0 1) := hid (by rw [decK_succ, HR1.out]; rfl)
      go_wp2_with fail
      go_meet
      exact ⟨rfl, by rw [HEQ.out]; exact HST.out⟩
    case true =>
      obtain ⟨⟨m, S⟩, hxj⟩ : ∃ r, decK (k : Int) x0 1 = r := ⟨_, rfl⟩
      have HEQ : Hid (decK (k : Int) x0 2 = rFld 1 (m, S)) := hid (by rw [decK_succ, HR1.out, if_pos rfl, hxj])
      rw [hxj] at HST
      clear hxj
      obtain ⟨A, a, c, ho, hmo, hR, hm, hdk⟩ := HST.out
      have hDK := fun h6 => DecOk.fld (i := 1) hdk hR.byt h6
      have HDK := hid hDK
      have HQC : Hid (q + 1 ≤ wd0.heap.size) := hid (by have := ho.lt (by rw [ML_len]; decide); omega)
      clear hDK hdk
      obtain ⟨⟨x, S1⟩, hx⟩ : ∃ r, rNum 4611686018427387904 S = r := ⟨_, rfl⟩
      have CL := hid (rNumP_is (z := 4611686018427387904) rfl (hid hx) hR (by decide))
      have HFX : Hid (rFld 1 (m, S) = ({ m with vw := x }, S1)) := hid (by simp [rFld, hx])
      go_wp2_with fail
      (with_reducible refine CL.out.mono ?_)
      rintro e w5 ⟨rfl, ⟨a5, c5, hR5⟩, hm5⟩
      have ho5 := ho.mutT (by rw [ML_len]; decide) hm5 (by show ¬ q = s; have := HSQ.out; omega)
      have hmo5 := hmo.mutT hm5 (fun k e => by have e : k = s := e; have := HSQ.out; omega)
      have hmm := hm.trans (hm5.mono (G := (fun k => k = s ∨ k = q)) (fun k _ e => .inl e))
      obtain ⟨u3, o3⟩ : ∃ u, w5.cell? ⟨q, 3, none⟩ = some u := ⟨_, ho5.cell rfl⟩
      have f3 := ho5.f 3
      have HXN := hid hx
      have HO5 := hid ho5
      have HMO5 := hid hmo5
      have HR5 := hid hR5
      have HMM := hid hmm
      clear ho5 hmo5 hR5 hmm hm5 CL hx
      go_wp2_with fail
      go_meet
      refine ⟨rfl, ?_⟩
      have hdk2 := HDK.out (fun h => absurd h (by decide))
      rw [HEQ.out]
      rw [HFX.out] at hdk2 ⊢
      exact fin1 HSQ.out HO5.out HMO5.out HR5.out HMM.out hdk2
  case rest =>
  obtain ⟨rfl, hst⟩ := hcut
  rename World => wd1
  clear HST
  have HST := hid hst
  clear hst
  go_upto_if 32 with (go_at_call 92; (with_reducible refine (mhas2 HF HR2).mono ?_); rintro e wz ⟨rfl, rfl⟩)
  go_cut [5] (fun s5 wx => s5 = .pointer (some ⟨q, 0, none⟩) ∧ DecSt W4 q s (decK (k : Int) x0 3) wx)
  case first => as_aux_lemma =>
    cases r2
    case false =>
      have HEQ : Hid (decK (k : Int) x0 3 = decK (k : Int) x0 2) := hid (by rw [decK_succ, HR2.out]; rfl)
      go_wp2_with fail
      go_meet
      exact ⟨rfl, by rw [HEQ.out]; exact HST.out⟩
    case true =>
      obtain ⟨⟨m, S⟩, hxj⟩ : ∃ r, decK (k : Int) x0 2 = r := ⟨_, rfl⟩
      have HEQ : Hid (decK (k : Int) x0 3 = rFld 2 (m, S)) := hid (by rw [decK_succ, HR2.out, if_pos rfl, hxj])
      rw [hxj] at HST
      clear hxj
      obtain ⟨A, a, c, ho, hmo, hR, hm, hdk⟩ := HST.out
      have hDK := fun h6 => DecOk.fld (i := 2) hdk hR.byt h6
      have HDK := hid hDK
      have HQC : Hid (q + 1 ≤ wd1.heap.size) := hid (by have := ho.lt (by rw [ML_len]; decide); omega)
      clear hDK hdk
      obtain ⟨⟨x, S1⟩, hx⟩ : ∃ r, rNum 4611686018427387904 S = r := ⟨_, rfl⟩
      have CL := hid (rNumP_is (z := 4611686018427387904) rfl (hid hx) hR (by decide))
      have HFX : Hid (rFld 2 (m, S) = ({ m with sl := x }, S1)) := hid (by simp [rFld, hx])
      go_wp2_with fail
      (with_reducible refine CL.out.mono ?_)
      rintro e w5 ⟨rfl, ⟨a5, c5, hR5⟩, hm5⟩
      have ho5 := ho.mutT (by rw [ML_len]; decide) hm5 (by show ¬ q = s; have := HSQ.out; omega)
      have hmo5 := hmo.mutT hm5 (fun k e => by have e : k = s := e; have := HSQ.out; omega)
      have hmm := hm.trans (hm5.mono (G := (fun k => k = s ∨ k = q)) (fun k _ e => .inl e))
      obtain ⟨u4, o4⟩ : ∃ u, w5.cell? ⟨q, 4, none⟩ = some u := ⟨_, ho5.cell rfl⟩
      have f4 := ho5.f 4
      have HXN := hid hx
      have HO5 := hid ho5
      have HMO5 := hid hmo5
      have HR5 := hid hR5
      have HMM := hid hmm
      clear ho5 hmo5 hR5 hmm hm5 CL hx
      go_wp2_with fail
      go_meet
      refine ⟨rfl, ?_⟩
      have hdk2 := HDK.out (fun h => absurd h (by decide))
      rw [HEQ.out]
      rw [HFX.out] at hdk2 ⊢
      exact fin2 HSQ.out HO5.out HMO5.out HR5.out HMM.out hdk2
  case rest =>
  obtain ⟨rfl, hst⟩ := hcut
  rename World => wd2
  clear HST
  have HST := hid hst
  clear hst
  go_upto_if 37 with (go_at_call 92; (with_reducible refine (mhas3 HF HR3).mono ?_); rintro e wz ⟨rfl, rfl⟩)
  go_cut [5] (fun s5 wx => s5 = .pointer (some ⟨q, 0, none⟩) ∧ DecSt W4 q s (decK (k : Int) x0 4) wx)
  case first => as_aux_lemma =>
    cases r3
    case false =>
      have HEQ : Hid (decK (k : Int) x0 4 = decK (k : Int) x0 3) := hid (by rw [decK_succ, HR3.out]; rfl)
      go_wp2_with fail
      go_meet
      exact ⟨rfl, by rw [HEQ.out]; exact HST.out⟩
    case true =>
      obtain ⟨⟨m, S⟩, hxj⟩ : ∃ r, decK (k : Int) x0 3 = r := ⟨_, rfl⟩
      have HEQ : Hid (decK (k : Int) x0 4 = rFld 3 (m, S)) := hid (by rw [decK_succ, HR3.out, if_pos rfl, hxj])
      rw [hxj] at HST
      clear hxj
      obtain ⟨A, a, c, ho, hmo, hR, hm, hdk⟩ := HST.out
      have hDK := fun h6 => DecOk.fld (i := 3) hdk hR.byt h6
      have HDK := hid hDK
      have HQC : Hid (q + 1 ≤ wd2.heap.size) := hid (by have := ho.lt (by rw [ML_len]; decide); omega)
      clear hDK hdk
      obtain ⟨⟨bb, S1⟩, hx⟩ : ∃ r, rBal S = r := ⟨_, rfl⟩
      have CL := hid (rBal_any (hid hx) hR)
      have HFX : Hid (rFld 3 (m, S) = ({ m with b := bb }, S1)) := hid (by simp [rFld, hx])
      go_wp2_with fail
      (with_reducible refine CL.out.mono ?_)
      rintro e w5 ⟨rfl, ⟨a5, c5, hR5⟩, hm5⟩
      have ho5 := ho.mutT (by rw [ML_len]; decide) hm5 (by show ¬ q = s; have := HSQ.out; omega)
      have hmo5 := hmo.mutT hm5 (fun k e => by have e : k = s := e; have := HSQ.out; omega)
      have hmm := hm.trans (hm5.mono (G := (fun k => k = s ∨ k = q)) (fun k _ e => .inl e))
      obtain ⟨u7, o7⟩ : ∃ u, w5.cell? ⟨q, 7, none⟩ = some u := ⟨_, ho5.cell rfl⟩
      have f7 := ho5.f 7
      obtain ⟨u8, o8⟩ : ∃ u, w5.cell? ⟨q, 8, none⟩ = some u := ⟨_, ho5.cell rfl⟩
      have f8 := ho5.f 8
      obtain ⟨u9, o9⟩ : ∃ u, w5.cell? ⟨q, 9, none⟩ = some u := ⟨_, ho5.cell rfl⟩
      have f9 := ho5.f 9
      have HXN := hid hx
      have HO5 := hid ho5
      have HMO5 := hid hmo5
      have HR5 := hid hR5
      have HMM := hid hmm
      clear ho5 hmo5 hR5 hmm hm5 CL hx
      go_wp2_with fail
      go_meet
      refine ⟨rfl, ?_⟩
      have hdk2 := HDK.out (fun h => absurd h (by decide))
      rw [HEQ.out]
      rw [HFX.out] at hdk2 ⊢
      exact fin3 HSQ.out HO5.out HMO5.out HR5.out HMM.out hdk2
  case rest =>
  obtain ⟨rfl, hst⟩ := hcut
  rename World => wd3
  clear HST
  have HST := hid hst
  clear hst
  go_upto_if 42 with (go_at_call 92; (with_reducible refine (mhas4 HF HR4).mono ?_); rintro e wz ⟨rfl, rfl⟩)
  go_cut [5] (fun s5 wx => s5 = .pointer (some ⟨q, 0, none⟩) ∧ DecSt W4 q s (decK (k : Int) x0 5) wx)
  case first => as_aux_lemma =>
    cases r4
    case false =>
      have HEQ : Hid (decK (k : Int) x0 5 = decK (k : Int) x0 4) := hid (by rw [decK_succ, HR4.out]; rfl)
      go_wp2_with fail
      go_meet
      exact ⟨rfl, by rw [HEQ.out]; exact HST.out⟩
    case true =>
      obtain ⟨⟨m, S⟩, hxj⟩ : ∃ r, decK (k : Int) x0 4 = r := ⟨_, rfl⟩
      have HEQ : Hid (decK (k : Int) x0 5 = rFld 4 (m, S)) := hid (by rw [decK_succ, HR4.out, if_pos rfl, hxj])
      rw [hxj] at HST
      clear hxj
      obtain ⟨A, a, c, ho, hmo, hR, hm, hdk⟩ := HST.out
      have hDK := fun h6 => DecOk.fld (i := 4) hdk hR.byt h6
      have HDK := hid hDK
      have HQC : Hid (q + 1 ≤ wd3.heap.size) := hid (by have := ho.lt (by rw [ML_len]; decide); omega)
      clear hDK hdk
      obtain ⟨⟨x, S1⟩, hx⟩ : ∃ r, rNum 4611686018427387904 S = r := ⟨_, rfl⟩
      have CL := hid (rNumP_is (z := 4611686018427387904) rfl (hid hx) hR (by decide))
      have HFX : Hid (rFld 4 (m, S) = ({ m with num := x }, S1)) := hid (by simp [rFld, hx])
      go_wp2_with fail
      (with_reducible refine CL.out.mono ?_)
      rintro e w5 ⟨rfl, ⟨a5, c5, hR5⟩, hm5⟩
      have ho5 := ho.mutT (by rw [ML_len]; decide) hm5 (by show ¬ q = s; have := HSQ.out; omega)
      have hmo5 := hmo.mutT hm5 (fun k e => by have e : k = s := e; have := HSQ.out; omega)
      have hmm := hm.trans (hm5.mono (G := (fun k => k = s ∨ k = q)) (fun k _ e => .inl e))
      obtain ⟨u5, o5⟩ : ∃ u, w5.cell? ⟨q, 5, none⟩ = some u := ⟨_, ho5.cell rfl⟩
      have f5 := ho5.f 5
      have HXN := hid hx
      have HO5 := hid ho5
      have HMO5 := hid hmo5
      have HR5 := hid hR5
      have HMM := hid hmm
      clear ho5 hmo5 hR5 hmm hm5 CL hx
      go_wp2_with fail
      go_meet
      refine ⟨rfl, ?_⟩
      have hdk2 := HDK.out (fun h => absurd h (by decide))
      rw [HEQ.out]
      rw [HFX.out] at hdk2 ⊢
      exact fin4 HSQ.out HO5.out HMO5.out HR5.out HMM.out hdk2
  case rest =>
  obtain ⟨rfl, hst⟩ := hcut
  rename World => wd4
  clear HST
  have HST := hid hst
  clear hst
  go_upto_if 47 with (go_at_call 92; (with_reducible refine (mhas5 HF HR5).mono ?_); rintro e wz ⟨rfl, rfl⟩)
  go_cut [5] (fun s5 wx => s5 = .pointer (some ⟨q, 0, none⟩) ∧ DecSt W4 q s (decK (k : Int) x0 6) wx)
  case first => as_aux_lemma =>
    cases r5
    case false =>
      have HEQ : Hid (decK (k : Int) x0 6 = decK (k : Int) x0 5) := hid (by rw [decK_succ, HR5.out]; rfl)
      go_wp2_with fail
      go_meet
      exact ⟨rfl, by rw [HEQ.out]; exact HST.out⟩
    case true =>
      obtain ⟨⟨m, S⟩, hxj⟩ : ∃ r, decK (k : Int) x0 5 = r := ⟨_, rfl⟩
      have HEQ : Hid (decK (k : Int) x0 6 = rFld 5 (m, S)) := hid (by rw [decK_succ, HR5.out, if_pos rfl, hxj])
      rw [hxj] at HST
      clear hxj
      obtain ⟨A, a, c, ho, hmo, hR, hm, hdk⟩ := HST.out
      have hDK := fun h6 => DecOk.fld (i := 5) hdk hR.byt h6
      have HDK := hid hDK
      have HQC : Hid (q + 1 ≤ wd4.heap.size) := hid (by have := ho.lt (by rw [ML_len]; decide); omega)
      clear hDK hdk
      obtain ⟨⟨x, S1⟩, hx⟩ : ∃ r, rNum 4 S = r := ⟨_, rfl⟩
      have hx4 : x ≤ 4 := by have := rNum_le (most := 4) (S := S); rw [hx] at this; exact this
      have exx : IntKind.i64.wrap ((x : Nat) : Int) = ((x : Nat) : Int) := by rw [IntKind.wrap_i64] <;> omega
      have CL := hid (rNumP_is (z := 4) rfl (hid hx) hR (by decide))
      have HFX : Hid (rFld 5 (m, S) = ({ m with hops := (x : Int) }, S1)) := hid (by simp [rFld, hx])
      go_wp2_with fail
      (with_reducible refine CL.out.mono ?_)
      rintro e w5 ⟨rfl, ⟨a5, c5, hR5⟩, hm5⟩
      have ho5 := ho.mutT (by rw [ML_len]; decide) hm5 (by show ¬ q = s; have := HSQ.out; omega)
      have hmo5 := hmo.mutT hm5 (fun k e => by have e : k = s := e; have := HSQ.out; omega)
      have hmm := hm.trans (hm5.mono (G := (fun k => k = s ∨ k = q)) (fun k _ e => .inl e))
      obtain ⟨u6, o6⟩ : ∃ u, w5.cell? ⟨q, 6, none⟩ = some u := ⟨_, ho5.cell rfl⟩
      have f6 := ho5.f 6
      have HXN := hid hx
      have HO5 := hid ho5
      have HMO5 := hid hmo5
      have HR5 := hid hR5
      have HMM := hid hmm
      clear ho5 hmo5 hR5 hmm hm5 CL hx
      go_wp2_with fail
      go_meet
      refine ⟨rfl, ?_⟩
      have hdk2 := HDK.out (fun h => absurd h (by decide))
      rw [HEQ.out]
      rw [HFX.out] at hdk2 ⊢
      exact fin5 HSQ.out HO5.out HMO5.out HR5.out HMM.out hdk2
  case rest =>
  obtain ⟨rfl, hst⟩ := hcut
  rename World => wd5
  clear HST
  have HST := hid hst
  clear hst
  go_upto_if 53 with (go_at_call 92; (with_reducible refine (mhas6 HF HR6).mono ?_); rintro e wz ⟨rfl, rfl⟩)
  go_cut [5] (fun s5 wx => s5 = .pointer (some ⟨q, 0, none⟩) ∧ DecSt W4 q s (decK (k : Int) x0 7) wx)
  case first => as_aux_lemma =>
    cases r6
    case false =>
      have HEQ : Hid (decK (k : Int) x0 7 = decK (k : Int) x0 6) := hid (by rw [decK_succ, HR6.out]; rfl)
      go_wp2_with fail
      go_meet
      exact ⟨rfl, by rw [HEQ.out]; exact HST.out⟩
    case true =>
      obtain ⟨⟨m, S⟩, hxj⟩ : ∃ r, decK (k : Int) x0 6 = r := ⟨_, rfl⟩
      have HEQ : Hid (decK (k : Int) x0 7 = rFld 6 (m, S)) := hid (by rw [decK_succ, HR6.out, if_pos rfl, hxj])
      rw [hxj] at HST
      clear hxj
      obtain ⟨A, a, c, ho, hmo, hR, hm, hdk⟩ := HST.out
      have hDK := fun h6 => DecOk.fld (i := 6) hdk hR.byt h6
      have HDK := hid hDK
      have HQC : Hid (q + 1 ≤ wd5.heap.size) := hid (by have := ho.lt (by rw [ML_len]; decide); omega)
      clear hDK hdk
      obtain ⟨⟨t, S1⟩, hx⟩ : ∃ r, rTruth S = r := ⟨_, rfl⟩
      have CL := hid (rTruth_any (hid hx) hR)
      go_wp2_with fail
      (with_reducible refine CL.out.mono ?_)
      rintro e w5 ⟨rfl, ⟨a5, c5, hR5⟩, hm5⟩
      have ho5 := ho.mutT (by rw [ML_len]; decide) hm5 (by show ¬ q = s; have := HSQ.out; omega)
      have hmo5 := hmo.mutT hm5 (fun k e => by have e : k = s := e; have := HSQ.out; omega)
      have hmm := hm.trans (hm5.mono (G := (fun k => k = s ∨ k = q)) (fun k _ e => .inl e))
      obtain ⟨u13, o13⟩ : ∃ u, w5.cell? ⟨q, 13, none⟩ = some u := ⟨_, ho5.cell rfl⟩
      have f13 := ho5.f 13
      have HXN := hid hx
      have HO5 := hid ho5
      have HMO5 := hid hmo5
      have HR5 := hid hR5
      have HMM := hid hmm
      clear ho5 hmo5 hR5 hmm hm5 CL hx
      have HB6' : Hid (∀ T U, rBal S1 = (T, U) → True) := hid (fun _ _ _ => trivial)
      cases t
      case false =>
        have HB6 : Hid (∀ b ∈ (rBal S1).2.b, b < 256) := hid (rBal_byt HR5.out.byt)
        have HFX : Hid (rFld 6 (m, S) = ({ m with has := false }, S1)) := hid (by simp [rFld, HXN.out])
        go_wp2_with fail
        go_meet
        refine ⟨rfl, ?_⟩
        have B6 : ∀ b ∈ (rBal (rTruth S).2).2.b, b < 256 := by
          rw [HXN.out]
          exact HB6.out
        have hdk2 := HDK.out (fun _ => B6)
        rw [HEQ.out]
        rw [HFX.out] at hdk2 ⊢
        exact fin6f HSQ.out HO5.out HMO5.out HR5.out HMM.out hdk2
      case true =>
        obtain ⟨⟨bb, S2⟩, hx⟩ : ∃ r, rBal S1 = r := ⟨_, rfl⟩
        obtain ⟨⟨cc, S3⟩, hx3⟩ : ∃ r, rCmd S2 = r := ⟨_, rfl⟩
        have HB6 : Hid (∀ b ∈ (rBal S1).2.b, b < 256) := hid (rBal_byt HR5.out.byt)
        have HFX : Hid (rFld 6 (m, S) = ({ m with has := true, a := bb, c := cc }, S3)) := hid (by simp [rFld, HXN.out, hx, hx3])
        obtain ⟨w6, hw6⟩ : ∃ w6, w5.setCell ⟨q, 13, none⟩ (.bool true) = w6 := ⟨_, rfl⟩
        have hm56 : Mut (fun k => k = q) w5 w6 := by rw [← hw6]; exact mut1
        have ho : OutL w6 q (ML A { m with has := true }) := by rw [← hw6]; exact HO5.out.set (j := 13) (by rw [ML_len]; decide) (.bool true)
        have hmo : MsgO w6 (q + 1) A { m with has := true } := (HMO5.out.mutT hm56 (fun k e => by have e : k = q := e; omega) : MsgO w6 (q + 1) A m).has
        have hR := HR5.out.mutT hm56 (fun k e => by have e : k = q := e; have := HSQ.out; omega)
        have hm := HMM.out.trans (hm56.mono (G := (fun k => k = s ∨ k = q)) (fun k _ e => .inr e))
        have b13 : w6.cell? ⟨q, 13, none⟩ = some (.bool true) := ho.cell rfl
        have CL := hid (rBal_any (hid hx) hR)
        clear HO5 HMO5 HR5 HMM hm56
        go_wp2_with fail
        (with_reducible refine CL.out.mono ?_)
        rintro e w7 ⟨rfl, ⟨a7, c7, hR7⟩, hm7⟩
        have ho7 := ho.mutT (by rw [ML_len]; decide) hm7 (by show ¬ q = s; have := HSQ.out; omega)
        have hmo7 := hmo.mutT hm7 (fun k e => by have e : k = s := e; have := HSQ.out; omega)
        have hmm7 := hm.trans (hm7.mono (G := (fun k => k = s ∨ k = q)) (fun k _ e => .inl e))
        obtain ⟨u10, o10⟩ : ∃ u, w7.cell? ⟨q, 10, none⟩ = some u := ⟨_, ho7.cell rfl⟩
        obtain ⟨u11, o11⟩ : ∃ u, w7.cell? ⟨q, 11, none⟩ = some u := ⟨_, ho7.cell rfl⟩
        obtain ⟨u12, o12⟩ : ∃ u, w7.cell? ⟨q, 12, none⟩ = some u := ⟨_, ho7.cell rfl⟩
        have f10 := ho7.f 10
        have f11 := ho7.f 11
        have f12 := ho7.f 12
        obtain ⟨w8, hw8⟩ : ∃ w8, ((w7.setCell ⟨q, 10, none⟩ (.int .u32 bb.1)).setCell ⟨q, 11, none⟩ (.int .u16 bb.2.1)).setCell ⟨q, 12, none⟩ (.int .u32 bb.2.2) = w8 := ⟨_, rfl⟩
        have hm78 : Mut (fun k => k = q) w7 w8 := by rw [← hw8]; exact (mut1.trans mut1).trans mut1
        have ho8 : OutL w8 q (ML A { m with has := true, a := bb }) := by rw [← hw8]; exact ((ho7.set (j := 10) (by rw [ML_len]; decide) (.int .u32 bb.1)).set (j := 11) (by simp only [List.length_set, ML_len]; decide) (.int .u16 bb.2.1)).set (j := 12) (by simp only [List.length_set, ML_len]; decide) (.int .u32 bb.2.2)
        have hmo8 : MsgO w8 (q + 1) A { m with has := true, a := bb } := (hmo7.mutT hm78 (fun k e => by have e : k = q := e; omega)).aa
        have hR := hR7.mutT hm78 (fun k e => by have e : k = q := e; have := HSQ.out; omega)
        have hmm8 := hmm7.trans (hm78.mono (G := (fun k => k = s ∨ k = q)) (fun k _ e => .inr e))
        have hx := hx3
        have CL3 := hid (cmdGet_any (hid hx) hR)
        have HO8 := hid ho8
        have HMO8 := hid hmo8
        have HMM8 := hid hmm8
        have HSZ8 : Hid (q + 1 ≤ w8.heap.size) := hid (by have := ho8.lt (by rw [ML_len]; decide); omega)
        clear ho hmo hm hR7 hm7 ho7 hmo7 hmm7 hm78 ho8 hmo8 hR hmm8 CL hx hx3 b13
        go_wp2_with fail
        (with_reducible refine CL3.out.mono ?_)
        rintro e w9 ⟨qd, qm, ql, qs, kd, km, kl, ks, rfl, hod, hom, hol, hos, ⟨a5, c5, hR5⟩, hm9⟩
        have ho5 := HO8.out.mutT (by rw [ML_len]; decide) hm9 (by show ¬ q = s; have := HSQ.out; omega)
        have hmo5 := HMO8.out.mutT hm9 (fun k e => by have e : k = s := e; have := HSQ.out; omega)
        have hmm := HMM8.out.trans (hm9.mono (G := (fun k => k = s ∨ k = q)) (fun k _ e => .inl e))
        have hmo6 : MsgO w9 (q + 1) { A with da := qd, dc := kd, am := qm, cm := km, al := ql, cl := kl, ad := qs, cd := ks } { m with has := true, a := bb, c := cc } := ⟨hod.mono HSZ8.out, hom.mono2 HSZ8.out, hol.mono HSZ8.out, hos.mono2 HSZ8.out, hmo5.vm, hmo5.vl, hmo5.vs, hmo5.y⟩
        have ht : w9.there q 14 10 := ho5.there (by rw [ML_len]; decide)
        have HMO6 := hid hmo6
        have HO5 := hid ho5
        have HR5 := hid hR5
        have HMM := hid hmm
        clear hod hom hol hos hmo6 ho5 hmo5 hR5 hmm hm9 CL3 HO8 HMO8 HMM8
        go_wp2_with (refine wpList_storeMC (A := { A with da := qd, dc := kd, am := qm, cm := km, al := ql, cl := kl, ad := qs, cd := ks }) (c := cc) ht rfl rfl rfl rfl ?_)
        go_meet
        refine ⟨rfl, ?_⟩
        have B6 : ∀ b ∈ (rBal (rTruth S).2).2.b, b < 256 := by
          rw [HXN.out]
          exact HB6.out
        have hdk2 := HDK.out (fun _ => B6)
        rw [HEQ.out]
        rw [HFX.out] at hdk2 ⊢
        exact fin6t HSQ.out HO5.out HMO6.out HR5.out HMM.out hdk2
  case rest =>
  obtain ⟨rfl, hst⟩ := hcut
  rename World => wd6
  clear HST
  have HST := hid hst
  clear hst
  go_upto_if 66 with (go_at_call 92; (with_reducible refine (mhas7 HF HR7).mono ?_); rintro e wz ⟨rfl, rfl⟩)
  go_cut [5] (fun s5 wx => s5 = .pointer (some ⟨q, 0, none⟩) ∧ DecSt W4 q s (decK (k : Int) x0 8) wx)
  case first => as_aux_lemma =>
    cases r7
    case false =>
      have HEQ : Hid (decK (k : Int) x0 8 = decK (k : Int) x0 7) := hid (by rw [decK_succ, HR7.out]; rfl)
      go_wp2_with fail
      go_meet
      exact ⟨rfl, by rw [HEQ.out]; exact HST.out⟩
    case true =>
      obtain ⟨⟨m, S⟩, hxj⟩ : ∃ r, decK (k : Int) x0 7 = r := ⟨_, rfl⟩
      have HEQ : Hid (decK (k : Int) x0 8 = rFld 7 (m, S)) := hid (by rw [decK_succ, HR7.out, if_pos rfl, hxj])
      rw [hxj] at HST
      clear hxj
      obtain ⟨A, a, c, ho, hmo, hR, hm, hdk⟩ := HST.out
      have hDK := fun h6 => DecOk.fld (i := 7) hdk hR.byt h6
      have HDK := hid hDK
      have HQC : Hid (q + 1 ≤ wd6.heap.size) := hid (by have := ho.lt (by rw [ML_len]; decide); omega)
      clear hDK hdk
      obtain ⟨⟨cc, S1⟩, hx⟩ : ∃ r, rCmd S = r := ⟨_, rfl⟩
      have CL := hid (cmdGet_any (hid hx) hR)
      have HFX : Hid (rFld 7 (m, S) = ({ m with c := cc }, S1)) := hid (by simp [rFld, hx])
      go_wp2_with fail
      (with_reducible refine CL.out.mono ?_)
      rintro e w5 ⟨qd, qm, ql, qs, kd, km, kl, ks, rfl, hod, hom, hol, hos, ⟨a5, c5, hR5⟩, hm5⟩
      have ho5 := ho.mutT (by rw [ML_len]; decide) hm5 (by show ¬ q = s; have := HSQ.out; omega)
      have hmo5 := hmo.mutT hm5 (fun k e => by have e : k = s := e; have := HSQ.out; omega)
      have hmm := hm.trans (hm5.mono (G := (fun k => k = s ∨ k = q)) (fun k _ e => .inl e))
      have hmo6 : MsgO w5 (q + 1) { A with da := qd, dc := kd, am := qm, cm := km, al := ql, cl := kl, ad := qs, cd := ks } { m with c := cc } := ⟨hod.mono HQC.out, hom.mono2 HQC.out, hol.mono HQC.out, hos.mono2 HQC.out, hmo5.vm, hmo5.vl, hmo5.vs, hmo5.y⟩
      have ht : w5.there q 14 10 := ho5.there (by rw [ML_len]; decide)
      have HMO6 := hid hmo6
      clear hod hom hol hos hmo6
      have HXN := hid hx
      have HO5 := hid ho5
      have HMO5 := hid hmo5
      have HR5 := hid hR5
      have HMM := hid hmm
      clear ho5 hmo5 hR5 hmm hm5 CL hx
      go_wp2_with (refine wpList_storeMC (A := { A with da := qd, dc := kd, am := qm, cm := km, al := ql, cl := kl, ad := qs, cd := ks }) (c := cc) ht rfl rfl rfl rfl ?_)
      go_meet
      refine ⟨rfl, ?_⟩
      have hdk2 := HDK.out (fun h => absurd h (by decide))
      rw [HEQ.out]
      rw [HFX.out] at hdk2 ⊢
      exact fin7 HSQ.out HO5.out HMO6.out HR5.out HMM.out hdk2
  case rest =>
  obtain ⟨rfl, hst⟩ := hcut
  rename World => wd7
  clear HST
  have HST := hid hst
  clear hst
  go_upto_if 71 with (go_at_call 92; (with_reducible refine (mhas8 HF HR8).mono ?_); rintro e wz ⟨rfl, rfl⟩)
  go_cut [5] (fun s5 wx => s5 = .pointer (some ⟨q, 0, none⟩) ∧ DecSt W4 q s (decK (k : Int) x0 9) wx)
  case first => as_aux_lemma =>
    cases r8
    case false =>
      have HEQ : Hid (decK (k : Int) x0 9 = decK (k : Int) x0 8) := hid (by rw [decK_succ, HR8.out]; rfl)
      go_wp2_with fail
      go_meet
      exact ⟨rfl, by rw [HEQ.out]; exact HST.out⟩
    case true =>
      obtain ⟨⟨m, S⟩, hxj⟩ : ∃ r, decK (k : Int) x0 8 = r := ⟨_, rfl⟩
      have HEQ : Hid (decK (k : Int) x0 9 = rFld 8 (m, S)) := hid (by rw [decK_succ, HR8.out, if_pos rfl, hxj])
      rw [hxj] at HST
      clear hxj
      obtain ⟨A, a, c, ho, hmo, hR, hm, hdk⟩ := HST.out
      have hDK := fun h6 => DecOk.fld (i := 8) hdk hR.byt h6
      have HDK := hid hDK
      have HQC : Hid (q + 1 ≤ wd7.heap.size) := hid (by have := ho.lt (by rw [ML_len]; decide); omega)
      clear hDK hdk
      obtain ⟨⟨V, S1⟩, hx⟩ : ∃ r, rView S = r := ⟨_, rfl⟩
      have CL := hid (viewGetP_is (hid hx) hR)
      have HFX : Hid (rFld 8 (m, S) = ({ m with v := V }, S1)) := hid (by simp [rFld, hx])
      go_wp2_with fail
      (with_reducible refine CL.out.mono ?_)
      rintro e w5 ⟨vm, vl, vd, rfl, hom, hol, hos, ⟨a5, c5, hR5⟩, hm5⟩
      obtain ⟨qm, km, rfl, -⟩ := hom.row
      obtain ⟨ql, kl, rfl, -⟩ := hol.row
      obtain ⟨qs, ks, rfl, -⟩ := hos.row
      have ho5 := ho.mutT (by rw [ML_len]; decide) hm5 (by show ¬ q = s; have := HSQ.out; omega)
      have hmo5 := hmo.mutT hm5 (fun k e => by have e : k = s := e; have := HSQ.out; omega)
      have hmm := hm.trans (hm5.mono (G := (fun k => k = s ∨ k = q)) (fun k _ e => .inl e))
      have hmo6 : MsgO w5 (q + 1) { A with vm := qm, em := km, vl := ql, el := kl, vd := qs, ed := ks } { m with v := V } := ⟨hmo5.cd, hmo5.cm, hmo5.cl, hmo5.cs, hom.mono2 HQC.out, hol.mono HQC.out, hos.mono2 HQC.out, hmo5.y⟩
      have HMO6 := hid hmo6
      clear hom hol hos hmo6
      obtain ⟨u24, o24⟩ : ∃ u, w5.cell? ⟨q, 24, none⟩ = some u := ⟨_, ho5.cell rfl⟩
      have f24 := ho5.f 24
      obtain ⟨u25, o25⟩ : ∃ u, w5.cell? ⟨q, 25, none⟩ = some u := ⟨_, ho5.cell rfl⟩
      have f25 := ho5.f 25
      obtain ⟨u26, o26⟩ : ∃ u, w5.cell? ⟨q, 26, none⟩ = some u := ⟨_, ho5.cell rfl⟩
      have f26 := ho5.f 26
      obtain ⟨u27, o27⟩ : ∃ u, w5.cell? ⟨q, 27, none⟩ = some u := ⟨_, ho5.cell rfl⟩
      have f27 := ho5.f 27
      have HXN := hid hx
      have HO5 := hid ho5
      have HMO5 := hid hmo5
      have HR5 := hid hR5
      have HMM := hid hmm
      clear ho5 hmo5 hR5 hmm hm5 CL hx
      go_wp2_with fail
      go_meet
      refine ⟨rfl, ?_⟩
      have hdk2 := HDK.out (fun h => absurd h (by decide))
      rw [HEQ.out]
      rw [HFX.out] at hdk2 ⊢
      exact fin8 HSQ.out HO5.out HMO6.out HR5.out HMM.out hdk2
  case rest =>
  obtain ⟨rfl, hst⟩ := hcut
  rename World => wd8
  clear HST
  have HST := hid hst
  clear hst
  go_upto_if 76 with (go_at_call 92; (with_reducible refine (mhas9 HF HR9).mono ?_); rintro e wz ⟨rfl, rfl⟩)
  go_cut [5] (fun s5 wx => s5 = .pointer (some ⟨q, 0, none⟩) ∧ DecSt W4 q s (decK (k : Int) x0 10) wx)
  case first => as_aux_lemma =>
    cases r9
    case false =>
      have HEQ : Hid (decK (k : Int) x0 10 = decK (k : Int) x0 9) := hid (by rw [decK_succ, HR9.out]; rfl)
      go_wp2_with fail
      go_meet
      exact ⟨rfl, by rw [HEQ.out]; exact HST.out⟩
    case true =>
      obtain ⟨⟨m, S⟩, hxj⟩ : ∃ r, decK (k : Int) x0 9 = r := ⟨_, rfl⟩
      have HEQ : Hid (decK (k : Int) x0 10 = rFld 9 (m, S)) := hid (by rw [decK_succ, HR9.out, if_pos rfl, hxj])
      rw [hxj] at HST
      clear hxj
      obtain ⟨A, a, c, ho, hmo, hR, hm, hdk⟩ := HST.out
      have hDK := fun h6 => DecOk.fld (i := 9) hdk hR.byt h6
      have HDK := hid hDK
      have HQC : Hid (q + 1 ≤ wd8.heap.size) := hid (by have := ho.lt (by rw [ML_len]; decide); omega)
      clear hDK hdk
      obtain ⟨⟨y, S1⟩, hx⟩ : ∃ r, rBytes 200 S = r := ⟨_, rfl⟩
      have CL := hid (rBytesP_is (hid hx) hR)
      have HFX : Hid (rFld 9 (m, S) = ({ m with y := y }, S1)) := hid (by simp [rFld, hx])
      go_wp2_with fail
      (with_reducible refine CL.out.mono ?_)
      rintro e w5 ⟨⟨vy, rfl, hoy⟩, ⟨a5, c5, hR5⟩, hm5⟩
      obtain ⟨qy, ky, rfl, -⟩ := hoy.row
      have ho5 := ho.mutT (by rw [ML_len]; decide) hm5 (by show ¬ q = s; have := HSQ.out; omega)
      have hmo5 := hmo.mutT hm5 (fun k e => by have e : k = s := e; have := HSQ.out; omega)
      have hmm := hm.trans (hm5.mono (G := (fun k => k = s ∨ k = q)) (fun k _ e => .inl e))
      have hmo6 : MsgO w5 (q + 1) { A with ya := qy, yc := ky } { m with y := y } := ⟨hmo5.cd, hmo5.cm, hmo5.cl, hmo5.cs, hmo5.vm, hmo5.vl, hmo5.vs, hoy.mono HQC.out⟩
      have HMO6 := hid hmo6
      clear hoy hmo6
      obtain ⟨u28, o28⟩ : ∃ u, w5.cell? ⟨q, 28, none⟩ = some u := ⟨_, ho5.cell rfl⟩
      have f28 := ho5.f 28
      have HXN := hid hx
      have HO5 := hid ho5
      have HMO5 := hid hmo5
      have HR5 := hid hR5
      have HMM := hid hmm
      clear ho5 hmo5 hR5 hmm hm5 CL hx
      go_wp2_with fail
      go_meet
      refine ⟨rfl, ?_⟩
      have hdk2 := HDK.out (fun h => absurd h (by decide))
      rw [HEQ.out]
      rw [HFX.out] at hdk2 ⊢
      exact fin9 HSQ.out HO5.out HMO6.out HR5.out HMM.out hdk2
  case rest =>
  obtain ⟨rfl, hst⟩ := hcut
  rename World => wd9
  clear HST
  have HST := hid hst
  clear hst
  obtain ⟨⟨m, S⟩, hxj⟩ : ∃ r, decK (k : Int) x0 10 = r := ⟨_, rfl⟩
  have hparts : rMsgParts ⟨bs, 0⟩ = (m, S) := by
    rw [← hxj, decK_10]
    unfold rMsgParts
    rw [HX0'.out]
    have : x0.1.kind = (k : Int) := by rw [HX0.out]
    rw [this]
  rw [hxj] at HST
  obtain ⟨A, a, c, ho, hmo, hR, hm, hdk⟩ := HST.out
  have HPARTS := hid hparts
  have hxr := HXR4.out.mutT (by rw [ML_len]; decide) hm (by have := HQ0.out; have := HSQ.out; rintro (e | e) <;> (try simp only at e) <;> omega)
  have htr : wd9.there w.heap.size 0 29 := hxr.there (by rw [ML_len]; decide)
  have hbl := HBW.out.trans (hm.below HBW.out.size (fun k e => by have := HQ0.out; have := HSQ.out; rcases e with e | e <;> (try simp only at e) <;> omega))
  have THR : Hid (∀ W : World, Below wd9.heap.size wd9 W → OutL W w.heap.size (ML zeroA zeroM)) := hid fun W h => hxr.ext h (hxr.lt (by rw [ML_len]; decide))
  have EN := hid (rEnd_any hR)
  have xm : MsgBox wd9 q A m := ho.r
  have CK := hid (msgCheck_any (hmo.r hdk) hdk.s)
  obtain ⟨E, hE⟩ : ∃ E, rEnd S = E := ⟨_, rfl⟩
  rw [hE] at EN
  have HE := hid hE
  have HMO := hid hmo
  have HDK := hid hdk
  have HBL := hid hbl
  have HO := hid ho
  have HTR := hid htr
  have HQ0S : Hid (w.heap.size < q) := hid (by have := HQ0.out; have := HSQ.out; omega)
  clear ho hmo hR hm hdk hxj hparts hxr hbl hE HST
  have ZR : Hid (∀ (W : World) (A : MA) (m : MsgD), W.there w.heap.size 0 29 → (W.setCells w.heap.size 0 (ML A m)).rangeAt w.heap.size 0 (ML A m)) := hid fun W A m h => World.rangeAt_setCells_same _ _ _ _ h
  by_cases hE0 : E = 0
  · have q1 : ((E : Int) != 0) = false := by rw [hE0]; rfl
    have HE0 := hid hE0
    clear hE0
    cases hc : msgChk m
    case false =>
      rw [hc] at CK
      have HM : Hid (rMsg bs = (zeroM, 5)) := hid (by unfold rMsg; rw [HPARTS.out]; simp only [HE.out, HE0.out, hc]; simp)
      have e1 : chkE false = 1 := rfl
      clear hc
      go_wp2_with (first
        | (go_at_call 117; (with_reducible refine EN.out.mono ?_); rintro e wz ⟨rfl, rfl⟩)
        | (refine wpList_loadM xm rfl rfl rfl ?_)
        | (go_at_call 29; (with_reducible refine CK.out.mono ?_); rintro e w9 ⟨rfl, hb9⟩; rw [e1]; have ht9 : w9.there w.heap.size 0 29 := (OutL.there (L := ML zeroA zeroM) (THR.out _ hb9) (by rw [ML_len]; decide)))
        | (refine wpList_storeM (A := zeroA) (m := zeroM) ht9 rfl rfl rfl rfl ?_))
      exact bodyPost_ret (v := .tuple #[.agg (ML zeroA zeroM).toArray, .int .i64 5]) (results_cell_tmp (p := 2) (q := 3) (ty := 46) rfl _ _ w.heap.size 0 (ML zeroA zeroM) _ rfl (ZR.out _ _ _ ht9) Try.underlying46 rfl (infoML _ _)) rfl ⟨zeroA, by first | (rw [HM.out]; done) | (rw [HM.out]; rfl), by rw [HM.out]; exact MsgO.zero _ _ rfl rfl rfl, by rw [HM.out]; exact DecOk.zero (k := 0), below_setCells _ _ (HBL.out.trans (hb9.mono HBL.out.size)) (Nat.le_refl _)⟩
    case true =>
      rw [hc] at CK
      have HM : Hid (rMsg bs = (m, 0)) := hid (by unfold rMsg; rw [HPARTS.out]; simp only [HE.out, HE0.out, hc]; simp)
      have e1 : chkE true = 0 := rfl
      clear hc
      go_wp2_with (first
        | (go_at_call 117; (with_reducible refine EN.out.mono ?_); rintro e wz ⟨rfl, rfl⟩)
        | (refine wpList_loadM xm rfl rfl rfl ?_)
        | (go_at_call 29; (with_reducible refine CK.out.mono ?_); rintro e w9 ⟨rfl, hb9⟩; rw [e1]; have ht9 : w9.there w.heap.size 0 29 := (OutL.there (L := ML zeroA zeroM) (THR.out _ hb9) (by rw [ML_len]; decide)); have xm9 := xm.ext hb9 xm.lt)
        | (refine wpList_loadM xm9 rfl rfl rfl ?_)
        | (refine wpList_storeM (A := A) (m := m) ht9 rfl rfl rfl rfl ?_))
      exact bodyPost_ret (v := .tuple #[.agg (ML A m).toArray, .int .i64 0]) (results_cell_tmp (p := 2) (q := 3) (ty := 46) rfl _ _ w.heap.size 0 (ML A m) _ rfl (ZR.out _ _ _ ht9) Try.underlying46 rfl (infoML _ _)) rfl ⟨A, by first | (rw [HM.out]; done) | (rw [HM.out]; rfl), by rw [HM.out]; exact ((HMO.out.ext hb9).mutT (mut_setCells (q := w.heap.size) _ _ _) (fun k e => by have e : k = w.heap.size := e; have := HQ0S.out; omega)).mono (by have := HQ0S.out; omega), by rw [HM.out]; exact HDK.out, below_setCells _ _ (HBL.out.trans (hb9.mono HBL.out.size)) (Nat.le_refl _)⟩
  · have q1 : ((E : Int) != 0) = true := by simp only [bne_iff_ne, ne_eq]; omega
    have HM : Hid (rMsg bs = (zeroM, E)) := hid (by unfold rMsg; rw [HPARTS.out]; simp only [HE.out]; rw [if_pos hE0])
    clear hE0
    go_wp2_with (first
      | (go_at_call 117; (with_reducible refine EN.out.mono ?_); rintro e wz ⟨rfl, rfl⟩)
      | (refine wpList_storeM (A := zeroA) (m := zeroM) HTR.out rfl rfl rfl rfl ?_))
    exact bodyPost_ret (v := .tuple #[.agg (ML zeroA zeroM).toArray, .int .i64 E]) (results_cell_tmp (p := 2) (q := 3) (ty := 46) rfl _ _ w.heap.size 0 (ML zeroA zeroM) _ rfl (ZR.out _ _ _ HTR.out) Try.underlying46 rfl (infoML _ _)) rfl ⟨zeroA, by first | (rw [HM.out]; done) | (rw [HM.out]; rfl), by rw [HM.out]; exact MsgO.zero _ _ rfl rfl rfl, by rw [HM.out]; exact DecOk.zero (k := 0), below_setCells _ _ HBL.out (Nat.le_refl _)⟩
end Go.Proofs.Ytbpfhclcjedkcaa

