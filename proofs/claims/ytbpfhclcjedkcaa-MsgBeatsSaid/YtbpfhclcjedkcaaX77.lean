/- Parts of the proof: X77. -/
import Derived.Test.YtbpfhclcjedkcaaSm40
import Derived.Test.YtbpfhclcjedkcaaX69
import Derived.Test.YtbpfhclcjedkcaaX70
namespace Go.Proofs.Ytbpfhclcjedkcaa
open Go.RowKit
/-! ### the reference's Decode of a message -/
theorem viewGetQ_is {s c : Nat} {a : Option Addr} {S S1 : RS} {V : View} {w : World} (hx : Hid (rView S = (V, S1))) (hR : RdIs w s a c S) :
    Calls Try.prog 136 #[.pointer (some ⟨s, 0, none⟩)] w fun e w' => ∃ vm vl vd, e = .returned (.agg #[.int .u64 V.id, vm, vl, vd]) ∧ OwnP w' w.heap.size vm V.ms ∧ OwnLL w' w.heap.size vl V.ls ∧ OwnP w' w.heap.size vd V.ds ∧ (∃ a' c', RdIs w' s a' c' S1) ∧ Mut (fun k => k = s) w w' := by
  have := viewGetR_any hR
  rw [hx.out] at this; exact this
theorem rEndR_any {s c : Nat} {a : Option Addr} {S : RS} {w : World} (h : RdIs w s a c S) :
    Calls Try.prog 121 #[.pointer (some ⟨s, 0, none⟩)] w fun e w' => e = .returned (.int .i64 (rEnd S)) ∧ w = w' := by
  obtain ⟨R, hR⟩ : ∃ R, rEnd S = R := ⟨_, rfl⟩
  have HR : Hid (R = if S.e = 0 ∧ 0 < S.b.length then 5 else S.e) := hid hR.symm
  rw [hR]
  clear hR
  have c0 := h.c0
  have c1 := h.c1
  obtain ⟨e2, he2⟩ : ∃ e2, S.e = e2 := ⟨_, rfl⟩
  obtain ⟨n, hn⟩ : ∃ n, S.b.length = n := ⟨_, rfl⟩
  rw [hn] at c0
  rw [he2] at c1
  rw [he2, hn] at HR
  clear he2 hn h
  by_cases hz : e2 = 0
  · subst hz
    by_cases hl : 0 < n
    · have t1 : decide (0 < n) = true := decide_eq_true hl
      have t2 : decide ((0 : Int) < (n : Int)) = true := decide_eq_true (by omega)
      have t3 : decide ((n : Int) > 0) = true := decide_eq_true (by omega)
      have HL := hid hl
      clear hl
      go_enter Try.func121, Try.ntmps121
      go_wp2
      go_ret
      exact ⟨by rw [HR.out]; simp [HL.out], rfl⟩
    · have t1 : decide (0 < n) = false := decide_eq_false hl
      have t2 : decide ((0 : Int) < (n : Int)) = false := decide_eq_false (by omega)
      have t3 : decide ((n : Int) > 0) = false := decide_eq_false (by omega)
      have HL := hid hl
      clear hl
      go_enter Try.func121, Try.ntmps121
      go_wp2
      go_ret
      exact ⟨by rw [HR.out]; simp [HL.out], rfl⟩
  · have t3 : ((e2 : Int) == 0) = false := by rw [beq_eq_false_iff_ne]; omega
    have HZ := hid hz
    clear hz
    go_enter Try.func121, Try.ntmps121
    go_wp2
    go_ret
    exact ⟨by rw [HR.out]; simp [HZ.out], rfl⟩
/-- some fields are read, in the kind's order -/
def decL (l : List Nat) (x : MsgD × RS) (j : Nat) : MsgD × RS := (l.take j).foldl (fun x i => rFld i x) x
theorem decL_succ {l : List Nat} {x : MsgD × RS} {j i : Nat} (h : l[j]? = some i) : decL l x (j + 1) = rFld i (decL l x j) := by
  obtain ⟨hj, e⟩ := List.getElem?_eq_some_iff.1 h
  unfold decL
  rw [List.take_succ_eq_append_getElem hj, e, List.foldl_append]; rfl
set_option maxRecDepth 100000 in
set_option maxHeartbeats 12800000 in
theorem msgDecodeR_any {ba : Option Addr} {bc n : Nat} {bs : List Nat} {w : World} (hn : Hid (bs.length = n)) (hl : n ≤ 70368744177664) (hcp : n ≤ bc) (hby : ∀ b ∈ bs, b < 256) (hrow : ByteRow w ba bs) :
    Calls Try.prog 40 #[.slice ba n bc] w fun e w' => ∃ A, e = .returned (.tuple #[.agg (ML A (rMsg bs).1).toArray, .int .i64 (rMsg bs).2]) ∧ MsgO w' w.heap.size A (rMsg bs).1 ∧ DecOk (rMsg bs).1 ∧ Below w.heap.size w w' := by
  obtain ⟨W1, hW1⟩ : ∃ W1, w.alloc (.cells #[.int .i64 0, .int .u16 0, .int .u32 0, .int .u64 0, .int .u64 0, .int .u64 0, .int .i64 0, .int .u32 0, .int .u16 0, .int .u32 0, .int .u32 0, .int .u16 0, .int .u32 0, .bool false, .int .i64 0, .int .u16 0, .int .u32 0, .int .u64 0, .int .u64 0, .slice none 0 0, .int .u64 0, .slice none 0 0, .slice none 0 0, .slice none 0 0, .int .u64 0, .slice none 0 0, .slice none 0 0, .slice none 0 0, .slice none 0 0] 46) = W1 := ⟨_, rfl⟩
  have hB1 : Below w.heap.size w W1 := by rw [← hW1]; exact (Below.refl _ _).alloc (Nat.le_refl _) _
  have hz1 : W1.heap.size = w.heap.size + 1 := by rw [← hW1]; simp
  have xR : OutL W1 w.heap.size (ML zeroA zeroM) := by rw [← hW1]; exact ownZ w
  obtain ⟨w2, hw2⟩ : ∃ w2, W1.alloc (.cells #[.slice ba n bc, .int .i64 0] 176) = w2 := ⟨_, rfl⟩
  obtain ⟨s, hs⟩ : ∃ s, W1.heap.size = s := ⟨_, rfl⟩
  have hR2 : RdIs w2 s ba bc ⟨bs, 0⟩ := by
    rw [← hw2, ← hs]
    exact RdIs.made W1 _ hn.out (hrow.ext hB1) (by rw [hn.out]; exact hcp) hby (by rw [hn.out]; exact hl)
  have hb2 : Below W1.heap.size W1 w2 := by rw [← hw2]; exact (Below.refl _ _).alloc (Nat.le_refl _) _
  have HB1 := hid hB1
  have HZ1 := hid hz1
  have HXR := hid xR
  have HBY := hid hby
  clear hB1 hz1 xR hby hrow
  obtain ⟨⟨k, S1⟩, hk⟩ : ∃ r, rNum 14 ⟨bs, 0⟩ = r := ⟨_, rfl⟩
  have hk14 : k ≤ 14 := by have := rNum_le (most := 14) (S := ⟨bs, 0⟩); rw [hk] at this; exact this
  have ek : IntKind.i64.wrap ((k : Nat) : Int) = ((k : Nat) : Int) := by rw [IntKind.wrap_i64] <;> omega
  have CN := hid (rNumR_is (z := 14) rfl (hid hk) hR2)
  have HB2 := hid hb2
  have HSZ : Hid (W1.heap.size ≤ s) := hid (by omega)
  have HSW : Hid (s < w2.heap.size) := hid hR2.lt
  have HK := hid hk
  clear hR2 hb2 hk
  go_enter Try.func40, Try.ntmps40
  go_wp2_with fail
  (with_reducible refine CN.out.mono ?_)
  rintro e w3 ⟨rfl, ⟨a3, c3, hR3⟩, hm3⟩
  obtain ⟨q, hq⟩ : ∃ q, w3.heap.size = q := ⟨_, rfl⟩
  obtain ⟨WZ, hWZ⟩ : ∃ WZ, w3.alloc (.cells #[.int .i64 0, .int .u16 0, .int .u32 0, .int .u64 0, .int .u64 0, .int .u64 0, .int .i64 0, .int .u32 0, .int .u16 0, .int .u32 0, .int .u32 0, .int .u16 0, .int .u32 0, .bool false, .int .i64 0, .int .u16 0, .int .u32 0, .int .u64 0, .int .u64 0, .slice none 0 0, .int .u64 0, .slice none 0 0, .slice none 0 0, .slice none 0 0, .int .u64 0, .slice none 0 0, .slice none 0 0, .slice none 0 0, .slice none 0 0] 46) = WZ := ⟨_, rfl⟩
  have oz : OutL WZ q (ML zeroA zeroM) := by rw [← hWZ, ← hq]; exact ownZ w3
  have hbz : Below w3.heap.size w3 WZ := by rw [← hWZ]; exact (Below.refl _ _).alloc (Nat.le_refl _) _
  have ht0 : WZ.there q 0 29 := oz.there (by rw [ML_len]; decide)
  obtain ⟨W4, hW4⟩ : ∃ W4, WZ.setCells q 0 (ML zeroA { zeroM with kind := (k : Int) }) = W4 := ⟨_, rfl⟩
  have ho4 : OutL W4 q (ML zeroA { zeroM with kind := (k : Int) }) := by
    have h1 := oz.sets (vs := ML zeroA { zeroM with kind := (k : Int) }) (o := 0) (by simp [ML_len])
    rw [hW4, setsZ] at h1
    exact h1
  have hb34 : Below w3.heap.size w3 W4 := by rw [← hW4]; exact below_setCells _ _ hbz (by omega)
  have hR4 := hR3.ext hb34
  have hsq : s < q := by have := hm3.size; have := HSW.out; omega
  have hmo4 : MsgO W4 (q + 1) zeroA { zeroM with kind := (k : Int) } := MsgO.zero _ _ rfl rfl rfl
  have hq0 : w.heap.size < s := by have := HSZ.out; have := HZ1.out; omega
  have hbw : Below w.heap.size w W4 := by
    have h12 := HB1.out.trans (HB2.out.mono HB1.out.size)
    have h3 : Below w.heap.size w w3 := h12.trans (hm3.below h12.size (fun k e => by have e : k = s := e; omega))
    exact h3.trans (hb34.mono h3.size)
  have hxr4 : OutL W4 w.heap.size (ML zeroA zeroM) := by
    have h2 := HXR.out.ext HB2.out (by rw [HZ1.out]; omega)
    have h3 := h2.mutT (by rw [ML_len]; decide) hm3 (by show ¬ w.heap.size = s; omega)
    exact h3.ext hb34 (h3.lt (by rw [ML_len]; decide))
  have o0 : W4.cell? ⟨q, 0, none⟩ = some (.int .i64 k) := ho4.cell rfl
  have HSQ := hid hsq
  have HQ := hid hq
  have HQ0 := hid hq0
  have HBW := hid hbw
  have HXR4 := hid hxr4
  obtain ⟨st, hsf⟩ : ∃ st, fstr (k : Int) = st := ⟨_, rfl⟩
  obtain ⟨l, hlf⟩ : ∃ l, ltrs (k : Int) = l := ⟨_, rfl⟩
  have HSF := hid hsf
  have HLF := hid hlf
  obtain ⟨ns, hns⟩ : ∃ n, st.size = n := ⟨_, rfl⟩
  have hnl : l.length = ns := by rw [← hns, ← hsf, ← hlf]; exact (fstr_len _).symm
  have HNL := hid hnl
  have HN := hid hns
  have hn1000 : ns ≤ 1000 := by rw [← hns, ← hsf]; exact fstr_size _
  have FL : Hid (∀ W, Calls Try.prog 100 #[.int .i64 k] W fun e w' => e = .returned (.string st) ∧ Below W.heap.size W w') := hid fun W => by
    have := fieldsR_any (k : Int) W
    rw [hsf] at this; exact this
  obtain ⟨em, hem⟩ : ∃ b, decide (flN (k : Int) = 0) = b := ⟨_, rfl⟩
  have hse : st.toList.isEmpty = em := by rw [← hem, ← hsf]; exact fstr_empty _
  have HEM := hid hem
  have HSE := hid hse
  obtain ⟨x0, hx0⟩ : ∃ x0, rMsgHead ⟨bs, 0⟩ = x0 := ⟨_, rfl⟩
  have HX0 : Hid (x0 = ({ zeroM with kind := (k : Int) }, if flN (k : Int) = 0 then stop5 S1 else S1)) := hid (by rw [← hx0]; unfold rMsgHead; rw [HK.out])
  have HX0' := hid hx0
  have HO4 := hid ho4
  have HMO4 := hid hmo4
  have HRD4 := hid hR4
  clear hR3 hm3 oz hbz ho4 hb34 hR4 hsq hmo4 hq0 hbw hxr4 CN hsf hlf hns hnl hem hse hx0
  go_upto_region 4 with (first
    | (refine wpList_storeM (A := zeroA) (m := { zeroM with kind := (k : Int) }) ht0 rfl rfl (by rw [← HQ.out]; rfl) rfl ?_; rw [hW4])
    | (go_at_call 100; (with_reducible refine (FL.out _).mono ?_); rintro e w4 ⟨rfl, hb4⟩))
  have hst0 : OutL w4 q (ML zeroA { zeroM with kind := (k : Int) }) ∧ MsgO w4 (q + 1) zeroA { zeroM with kind := (k : Int) } ∧ RdIs w4 s a3 c3 S1 ∧ Mut (fun k => k = s ∨ k = q) W4 w4 := ⟨HO4.out.ext hb4 (HO4.out.lt (by rw [ML_len]; decide)), HMO4.out.ext hb4, HRD4.out.ext hb4, Mut.of_below hb4⟩
  have HST0 := hid hst0
  clear o0 hb4 hst0 HO4 HMO4 HRD4 FL hWZ hW4 ht0 hW1 hw2 hs
  go_cut [5, 27] (fun s5 s27 wx => s5 = .pointer (some ⟨q, 0, none⟩) ∧ s27 = .bool (em && decide (S1.e = 0)) ∧ w4 = wx)
  case first =>
    have r1 := HST0.out.2.2.1.c1
    have hse := HSE.out
    cases em
    case false =>
      go_wp2_with fail
      go_meet
      exact ⟨rfl, rfl, rfl⟩
    case true =>
      by_cases he : S1.e = 0
      · have q1 : ((S1.e : Int) == 0) = true := by rw [he]; rfl
        have q2 : decide (S1.e = 0) = true := decide_eq_true he
        have HQ2 := hid q2
        clear q2 he
        go_wp2_with fail
        go_meet
        exact ⟨rfl, by rw [HQ2.out]; rfl, rfl⟩
      · have q1 : ((S1.e : Int) == 0) = false := by rw [beq_eq_false_iff_ne]; omega
        have q2 : decide (S1.e = 0) = false := decide_eq_false he
        have HQ2 := hid q2
        clear q2 he
        go_wp2_with fail
        go_meet
        exact ⟨rfl, by rw [HQ2.out]; rfl, rfl⟩
  case rest =>
  obtain ⟨rfl, rfl, rfl⟩ := hcut
  obtain ⟨tb, htb⟩ : ∃ b, (em && decide (S1.e = 0)) = b := ⟨_, rfl⟩
  have HXX : Hid (x0 = ({ zeroM with kind := (k : Int) }, if tb = true then ({ S1 with e := 5 } : RS) else S1)) := hid (by
    rw [HX0.out, ← htb]
    congr 1
    by_cases hf : flN (k : Int) = 0
    · have e1 : em = true := by rw [← HEM.out]; exact decide_eq_true hf
      rw [if_pos hf, e1]; unfold stop5; by_cases he : S1.e = 0 <;> simp [he]
    · have e1 : em = false := by rw [← HEM.out]; exact decide_eq_false hf
      rw [if_neg hf, e1]; simp)
  rw [htb]
  clear htb HX0 HEM HSE
  go_upto_if 27 with fail
  go_cut [5] (fun s5 wx => s5 = .pointer (some ⟨q, 0, none⟩) ∧ DecSt W4 q s (decL l x0 0) wx)
  case first =>
    obtain ⟨ho, hmo, hR, hm⟩ := HST0.out
    have f1 := hR.f1
    have r1 := hR.c1
    cases tb
    case false =>
      have HFIN : Hid (DecSt W4 q s x0 w4) := hid (by
        rw [HXX.out]
        exact ⟨zeroA, a3, c3, ho, hmo, hR, hm, DecOk.zero⟩)
      clear ho hmo hR hm
      go_wp2_with fail
      go_meet
      exact ⟨rfl, HFIN.out⟩
    case true =>
      have hbd : RdIs (w4.setCell ⟨s, 1, none⟩ (.int .i64 5)) s a3 c3 ⟨S1.b, 5⟩ := hR.bad 5
      have hmu := (mut1 (w := w4) (s := s) (i := 1) (v := .int .i64 5))
      have HFIN : Hid (DecSt W4 q s x0 (w4.setCell ⟨s, 1, none⟩ (.int .i64 5))) := hid (by
        rw [HXX.out]
        exact ⟨zeroA, a3, c3, ho.mutT (by rw [ML_len]; decide) hmu (by show ¬ q = s; have := HSQ.out; omega), hmo.mutT hmu (fun k e => by have e : k = s := e; have := HSQ.out; omega), hbd, hm.trans (hmu.mono (fun k _ e => .inl e)), DecOk.zero⟩)
      clear ho hmo hR hm hbd hmu
      go_wp2_with fail
      go_meet
      exact ⟨rfl, HFIN.out⟩
  case rest =>
  obtain ⟨rfl, hst⟩ := hcut
  rename World => wc
  have HST := hid hst
  clear hst HST0
  go_wp2_with fail
  go_loopw [7] (fun jv wr => ∃ j : Nat, j ≤ ns ∧ jv = .int .i64 j ∧ DecSt W4 q s (decL l x0 j) wr) (fun jv _ => ns - (intOf jv).toNat)
  case atStart => exact ⟨0, Nat.zero_le _, rfl, HST.out⟩
  case round =>
    obtain ⟨j, hj, rfl, hst⟩ := hrel
    by_cases hlt : j < ns
    · have t1 : decide ((j : Int) < (ns : Int)) = true := by simpa using hlt
      have t1' : decide (j < ns) = true := by simpa using hlt
      have hjs : j < st.size := by rw [HN.out]; exact hlt
      have hszn := HN.out
      obtain ⟨i, hi10, hli, hbv, hbt⟩ := lettB_at HSF.out hjs
      rw [HLF.out] at hli
      obtain ⟨⟨m, S⟩, hxj⟩ : ∃ r, decL l x0 j = r := ⟨_, rfl⟩
      have HEQ0 : Hid (decL l x0 (j + 1) = rFld i (m, S)) := hid (by rw [decL_succ hli, hxj])
      rw [hxj] at hst
      clear HST
      have HST := hid hst
      clear hst hxj hli hbt
      have hi : i = 0 ∨ i = 1 ∨ i = 2 ∨ i = 3 ∨ i = 4 ∨ i = 5 ∨ i = 6 ∨ i = 7 ∨ i = 8 ∨ i = 9 := by omega
      rcases hi with rfl | rfl | rfl | rfl | rfl | rfl | rfl | rfl | rfl | rfl
      · as_aux_lemma =>
          have hb2 : st[j].toNat = 119 := hbv
          clear hbv
          have e0 : ((st[j].toNat : Int) == 119) = true := by rw [hb2]; rfl
          have e1 : ((st[j].toNat : Int) == 118) = false := by rw [hb2]; rfl
          have e2 : ((st[j].toNat : Int) == 115) = false := by rw [hb2]; rfl
          have e3 : ((st[j].toNat : Int) == 98) = false := by rw [hb2]; rfl
          have e4 : ((st[j].toNat : Int) == 110) = false := by rw [hb2]; rfl
          have e5 : ((st[j].toNat : Int) == 104) = false := by rw [hb2]; rfl
          have e6 : ((st[j].toNat : Int) == 112) = false := by rw [hb2]; rfl
          have e7 : ((st[j].toNat : Int) == 99) = false := by rw [hb2]; rfl
          have e8 : ((st[j].toNat : Int) == 86) = false := by rw [hb2]; rfl
          have e9 : ((st[j].toNat : Int) == 121) = false := by rw [hb2]; rfl
          clear hb2
          obtain ⟨A, a, c, ho, hmo, hR, hm, hdk⟩ := HST.out
          have hDK := fun h6 => DecOk.fld (i := 0) hdk hR.byt h6
          have HDK := hid hDK
          have HQC : Hid (q + 1 ≤ wr.heap.size) := hid (by have := ho.lt (by rw [ML_len]; decide); omega)
          clear hDK hdk
          obtain ⟨⟨⟨px, py⟩, S1⟩, hx⟩ : ∃ r, rPid S = r := ⟨_, rfl⟩
          have CL := hid (rPidR_any (hid hx) hR)
          have HFX : Hid (rFld 0 (m, S) = ({ m with who := (px, py) }, S1)) := hid (by simp [rFld, hx])
          go_wp2_with fail
          (with_reducible refine CL.out.mono ?_)
          rintro e w5 ⟨rfl, ⟨a5, c5, hR5⟩, hm5⟩
          have ho5 := ho.mutT (by rw [ML_len]; decide) hm5 (by show ¬ q = s; have := HSQ.out; omega)
          have hmo5 := hmo.mutT hm5 (fun k e => by have e : k = s := e; have := HSQ.out; omega)
          have hmm := hm.trans (hm5.mono (G := (fun k => k = s ∨ k = q)) (fun k _ e => .inl e))
          obtain ⟨u1, o1⟩ : ∃ u, w5.cell? ⟨q, 1, none⟩ = some u := ⟨_, ho5.cell rfl⟩
          have f1 := ho5.f 1
          obtain ⟨u2, o2⟩ : ∃ u, w5.cell? ⟨q, 2, none⟩ = some u := ⟨_, ho5.cell rfl⟩
          have f2 := ho5.f 2
          have HXN := hid hx
          have HO5 := hid ho5
          have HMO5 := hid hmo5
          have HR5 := hid hR5
          have HMM := hid hmm
          clear ho5 hmo5 hR5 hmm hm5 CL hx
          go_wp2_with fail
          go_roundw
          case rel =>
            refine ⟨j + 1, by omega, by go_num, ?_⟩

            have hdk2 := HDK.out (fun h => absurd h (by decide))
            rw [HEQ0.out]
            rw [HFX.out] at hdk2 ⊢
            exact fin0 HSQ.out HO5.out HMO5.out HR5.out HMM.out hdk2
          case measure => simp [intOf]; omega
      · as_aux_lemma =>
          have hb2 : st[j].toNat = 118 := hbv
          clear hbv
          have e0 : ((st[j].toNat : Int) == 119) = false := by rw [hb2]; rfl
          have e1 : ((st[j].toNat : Int) == 118) = true := by rw [hb2]; rfl
          have e2 : ((st[j].toNat : Int) == 115) = false := by rw [hb2]; rfl
          have e3 : ((st[j].toNat : Int) == 98) = false := by rw [hb2]; rfl
          have e4 : ((st[j].toNat : Int) == 110) = false := by rw [hb2]; rfl
          have e5 : ((st[j].toNat : Int) == 104) = false := by rw [hb2]; rfl
          have e6 : ((st[j].toNat : Int) == 112) = false := by rw [hb2]; rfl
          have e7 : ((st[j].toNat : Int) == 99) = false := by rw [hb2]; rfl
          have e8 : ((st[j].toNat : Int) == 86) = false := by rw [hb2]; rfl
          have e9 : ((st[j].toNat : Int) == 121) = false := by rw [hb2]; rfl
          clear hb2
          obtain ⟨A, a, c, ho, hmo, hR, hm, hdk⟩ := HST.out
          have hDK := fun h6 => DecOk.fld (i := 1) hdk hR.byt h6
          have HDK := hid hDK
          have HQC : Hid (q + 1 ≤ wr.heap.size) := hid (by have := ho.lt (by rw [ML_len]; decide); omega)
          clear hDK hdk
          obtain ⟨⟨x, S1⟩, hx⟩ : ∃ r, rNum 4611686018427387904 S = r := ⟨_, rfl⟩
          have CL := hid (rNumR_is (z := 4611686018427387904) rfl (hid hx) hR)
          have HFX : Hid (rFld 1 (m, S) = ({ m with vw := x }, S1)) := hid (by simp [rFld, hx])
          go_wp2_with fail
          (with_reducible refine CL.out.mono ?_)
          rintro e w5 ⟨rfl, ⟨a5, c5, hR5⟩, hm5⟩
          have ho5 := ho.mutT (by rw [ML_len]; decide) hm5 (by show ¬ q = s; have := HSQ.out; omega)
          have hmo5 := hmo.mutT hm5 (fun k e => by have e : k = s := e; have := HSQ.out; omega)
          have hmm := hm.trans (hm5.mono (G := (fun k => k = s ∨ k = q)) (fun k _ e => .inl e))
          obtain ⟨u3, o3⟩ : ∃ u, w5.cell? ⟨q, 3, none⟩ = some u := ⟨_, ho5.cell rfl⟩
          have f3 := ho5.f 3
          have HXN := hid hx
          have HO5 := hid ho5
          have HMO5 := hid hmo5
          have HR5 := hid hR5
          have HMM := hid hmm
          clear ho5 hmo5 hR5 hmm hm5 CL hx
          go_wp2_with fail
          go_roundw
          case rel =>
            refine ⟨j + 1, by omega, by go_num, ?_⟩

            have hdk2 := HDK.out (fun h => absurd h (by decide))
            rw [HEQ0.out]
            rw [HFX.out] at hdk2 ⊢
            exact fin1 HSQ.out HO5.out HMO5.out HR5.out HMM.out hdk2
          case measure => simp [intOf]; omega
      · as_aux_lemma =>
          have hb2 : st[j].toNat = 115 := hbv
          clear hbv
          have e0 : ((st[j].toNat : Int) == 119) = false := by rw [hb2]; rfl
          have e1 : ((st[j].toNat : Int) == 118) = false := by rw [hb2]; rfl
          have e2 : ((st[j].toNat : Int) == 115) = true := by rw [hb2]; rfl
          have e3 : ((st[j].toNat : Int) == 98) = false := by rw [hb2]; rfl
          have e4 : ((st[j].toNat : Int) == 110) = false := by rw [hb2]; rfl
          have e5 : ((st[j].toNat : Int) == 104) = false := by rw [hb2]; rfl
          have e6 : ((st[j].toNat : Int) == 112) = false := by rw [hb2]; rfl
          have e7 : ((st[j].toNat : Int) == 99) = false := by rw [hb2]; rfl
          have e8 : ((st[j].toNat : Int) == 86) = false := by rw [hb2]; rfl
          have e9 : ((st[j].toNat : Int) == 121) = false := by rw [hb2]; rfl
          clear hb2
          obtain ⟨A, a, c, ho, hmo, hR, hm, hdk⟩ := HST.out
          have hDK := fun h6 => DecOk.fld (i := 2) hdk hR.byt h6
          have HDK := hid hDK
          have HQC : Hid (q + 1 ≤ wr.heap.size) := hid (by have := ho.lt (by rw [ML_len]; decide); omega)
          clear hDK hdk
          obtain ⟨⟨x, S1⟩, hx⟩ : ∃ r, rNum 4611686018427387904 S = r := ⟨_, rfl⟩
          have CL := hid (rNumR_is (z := 4611686018427387904) rfl (hid hx) hR)
          have HFX : Hid (rFld 2 (m, S) = ({ m with sl := x }, S1)) := hid (by simp [rFld, hx])
          go_wp2_with fail
          (with_reducible refine CL.out.mono ?_)
          rintro e w5 ⟨rfl, ⟨a5, c5, hR5⟩, hm5⟩
          have ho5 := ho.mutT (by rw [ML_len]; decide) hm5 (by show ¬ q = s; have := HSQ.out; omega)
          have hmo5 := hmo.mutT hm5 (fun k e => by have e : k = s := e; have := HSQ.out; omega)
          have hmm := hm.trans (hm5.mono (G := (fun k => k = s ∨ k = q)) (fun k _ e => .inl e))
          obtain ⟨u4, o4⟩ : ∃ u, w5.cell? ⟨q, 4, none⟩ = some u := ⟨_, ho5.cell rfl⟩
          have f4 := ho5.f 4
          have HXN := hid hx
          have HO5 := hid ho5
          have HMO5 := hid hmo5
          have HR5 := hid hR5
          have HMM := hid hmm
          clear ho5 hmo5 hR5 hmm hm5 CL hx
          go_wp2_with fail
          go_roundw
          case rel =>
            refine ⟨j + 1, by omega, by go_num, ?_⟩

            have hdk2 := HDK.out (fun h => absurd h (by decide))
            rw [HEQ0.out]
            rw [HFX.out] at hdk2 ⊢
            exact fin2 HSQ.out HO5.out HMO5.out HR5.out HMM.out hdk2
          case measure => simp [intOf]; omega
      · as_aux_lemma =>
          have hb2 : st[j].toNat = 98 := hbv
          clear hbv
          have e0 : ((st[j].toNat : Int) == 119) = false := by rw [hb2]; rfl
          have e1 : ((st[j].toNat : Int) == 118) = false := by rw [hb2]; rfl
          have e2 : ((st[j].toNat : Int) == 115) = false := by rw [hb2]; rfl
          have e3 : ((st[j].toNat : Int) == 98) = true := by rw [hb2]; rfl
          have e4 : ((st[j].toNat : Int) == 110) = false := by rw [hb2]; rfl
          have e5 : ((st[j].toNat : Int) == 104) = false := by rw [hb2]; rfl
          have e6 : ((st[j].toNat : Int) == 112) = false := by rw [hb2]; rfl
          have e7 : ((st[j].toNat : Int) == 99) = false := by rw [hb2]; rfl
          have e8 : ((st[j].toNat : Int) == 86) = false := by rw [hb2]; rfl
          have e9 : ((st[j].toNat : Int) == 121) = false := by rw [hb2]; rfl
          clear hb2
          obtain ⟨A, a, c, ho, hmo, hR, hm, hdk⟩ := HST.out
          have hDK := fun h6 => DecOk.fld (i := 3) hdk hR.byt h6
          have HDK := hid hDK
          have HQC : Hid (q + 1 ≤ wr.heap.size) := hid (by have := ho.lt (by rw [ML_len]; decide); omega)
          clear hDK hdk
          obtain ⟨⟨bb, S1⟩, hx⟩ : ∃ r, rBal S = r := ⟨_, rfl⟩
          have CL := hid (rBalR_any (hid hx) hR)
          have HFX : Hid (rFld 3 (m, S) = ({ m with b := bb }, S1)) := hid (by simp [rFld, hx])
          go_wp2_with fail
          (with_reducible refine CL.out.mono ?_)
          rintro e w5 ⟨rfl, ⟨a5, c5, hR5⟩, hm5⟩
          have ho5 := ho.mutT (by rw [ML_len]; decide) hm5 (by show ¬ q = s; have := HSQ.out; omega)
          have hmo5 := hmo.mutT hm5 (fun k e => by have e : k = s := e; have := HSQ.out; omega)
          have hmm := hm.trans (hm5.mono (G := (fun k => k = s ∨ k = q)) (fun k _ e => .inl e))
          obtain ⟨u7, o7⟩ : ∃ u, w5.cell? ⟨q, 7, none⟩ = some u := ⟨_, ho5.cell rfl⟩
          have f7 := ho5.f 7
          obtain ⟨u8, o8⟩ : ∃ u, w5.cell? ⟨q, 8, none⟩ = some u := ⟨_, ho5.cell rfl⟩
          have f8 := ho5.f 8
          obtain ⟨u9, o9⟩ : ∃ u, w5.cell? ⟨q, 9, none⟩ = some u := ⟨_, ho5.cell rfl⟩
          have f9 := ho5.f 9
          have HXN := hid hx
          have HO5 := hid ho5
          have HMO5 := hid hmo5
          have HR5 := hid hR5
          have HMM := hid hmm
          clear ho5 hmo5 hR5 hmm hm5 CL hx
          go_wp2_with fail
          go_roundw
          case rel =>
            refine ⟨j + 1, by omega, by go_num, ?_⟩

            have hdk2 := HDK.out (fun h => absurd h (by decide))
            rw [HEQ0.out]
            rw [HFX.out] at hdk2 ⊢
            exact fin3 HSQ.out HO5.out HMO5.out HR5.out HMM.out hdk2
          case measure => simp [intOf]; omega
      · as_aux_lemma =>
          have hb2 : st[j].toNat = 110 := hbv
          clear hbv
          have e0 : ((st[j].toNat : Int) == 119) = false := by rw [hb2]; rfl
          have e1 : ((st[j].toNat : Int) == 118) = false := by rw [hb2]; rfl
          have e2 : ((st[j].toNat : Int) == 115) = false := by rw [hb2]; rfl
          have e3 : ((st[j].toNat : Int) == 98) = false := by rw [hb2]; rfl
          have e4 : ((st[j].toNat : Int) == 110) = true := by rw [hb2]; rfl
          have e5 : ((st[j].toNat : Int) == 104) = false := by rw [hb2]; rfl
          have e6 : ((st[j].toNat : Int) == 112) = false := by rw [hb2]; rfl
          have e7 : ((st[j].toNat : Int) == 99) = false := by rw [hb2]; rfl
          have e8 : ((st[j].toNat : Int) == 86) = false := by rw [hb2]; rfl
          have e9 : ((st[j].toNat : Int) == 121) = false := by rw [hb2]; rfl
          clear hb2
          obtain ⟨A, a, c, ho, hmo, hR, hm, hdk⟩ := HST.out
          have hDK := fun h6 => DecOk.fld (i := 4) hdk hR.byt h6
          have HDK := hid hDK
          have HQC : Hid (q + 1 ≤ wr.heap.size) := hid (by have := ho.lt (by rw [ML_len]; decide); omega)
          clear hDK hdk
          obtain ⟨⟨x, S1⟩, hx⟩ : ∃ r, rNum 4611686018427387904 S = r := ⟨_, rfl⟩
          have CL := hid (rNumR_is (z := 4611686018427387904) rfl (hid hx) hR)
          have HFX : Hid (rFld 4 (m, S) = ({ m with num := x }, S1)) := hid (by simp [rFld, hx])
          go_wp2_with fail
          (with_reducible refine CL.out.mono ?_)
          rintro e w5 ⟨rfl, ⟨a5, c5, hR5⟩, hm5⟩
          have ho5 := ho.mutT (by rw [ML_len]; decide) hm5 (by show ¬ q = s; have := HSQ.out; omega)
          have hmo5 := hmo.mutT hm5 (fun k e => by have e : k = s := e; have := HSQ.out; omega)
          have hmm := hm.trans (hm5.mono (G := (fun k => k = s ∨ k = q)) (fun k _ e => .inl e))
          obtain ⟨u5, o5⟩ : ∃ u, w5.cell? ⟨q, 5, none⟩ = some u := ⟨_, ho5.cell rfl⟩
          have f5 := ho5.f 5
          have HXN := hid hx
          have HO5 := hid ho5
          have HMO5 := hid hmo5
          have HR5 := hid hR5
          have HMM := hid hmm
          clear ho5 hmo5 hR5 hmm hm5 CL hx
          go_wp2_with fail
          go_roundw
          case rel =>
            refine ⟨j + 1, by omega, by go_num, ?_⟩

            have hdk2 := HDK.out (fun h => absurd h (by decide))
            rw [HEQ0.out]
            rw [HFX.out] at hdk2 ⊢
            exact fin4 HSQ.out HO5.out HMO5.out HR5.out HMM.out hdk2
          case measure => simp [intOf]; omega
      · as_aux_lemma =>
          have hb2 : st[j].toNat = 104 := hbv
          clear hbv
          have e0 : ((st[j].toNat : Int) == 119) = false := by rw [hb2]; rfl
          have e1 : ((st[j].toNat : Int) == 118) = false := by rw [hb2]; rfl
          have e2 : ((st[j].toNat : Int) == 115) = false := by rw [hb2]; rfl
          have e3 : ((st[j].toNat : Int) == 98) = false := by rw [hb2]; rfl
          have e4 : ((st[j].toNat : Int) == 110) = false := by rw [hb2]; rfl
          have e5 : ((st[j].toNat : Int) == 104) = true := by rw [hb2]; rfl
          have e6 : ((st[j].toNat : Int) == 112) = false := by rw [hb2]; rfl
          have e7 : ((st[j].toNat : Int) == 99) = false := by rw [hb2]; rfl
          have e8 : ((st[j].toNat : Int) == 86) = false := by rw [hb2]; rfl
          have e9 : ((st[j].toNat : Int) == 121) = false := by rw [hb2]; rfl
          clear hb2
          obtain ⟨A, a, c, ho, hmo, hR, hm, hdk⟩ := HST.out
          have hDK := fun h6 => DecOk.fld (i := 5) hdk hR.byt h6
          have HDK := hid hDK
          have HQC : Hid (q + 1 ≤ wr.heap.size) := hid (by have := ho.lt (by rw [ML_len]; decide); omega)
          clear hDK hdk
          obtain ⟨⟨x, S1⟩, hx⟩ : ∃ r, rNum 4 S = r := ⟨_, rfl⟩
          have hx4 : x ≤ 4 := by have := rNum_le (most := 4) (S := S); rw [hx] at this; exact this
          have exx : IntKind.i64.wrap ((x : Nat) : Int) = ((x : Nat) : Int) := by rw [IntKind.wrap_i64] <;> omega
          have CL := hid (rNumR_is (z := 4) rfl (hid hx) hR)
          have HFX : Hid (rFld 5 (m, S) = ({ m with hops := (x : Int) }, S1)) := hid (by simp [rFld, hx])
          go_wp2_with fail
          (with_reducible refine CL.out.mono ?_)
          rintro e w5 ⟨rfl, ⟨a5, c5, hR5⟩, hm5⟩
          have ho5 := ho.mutT (by rw [ML_len]; decide) hm5 (by show ¬ q = s; have := HSQ.out; omega)
          have hmo5 := hmo.mutT hm5 (fun k e => by have e : k = s := e; have := HSQ.out; omega)
          have hmm := hm.trans (hm5.mono (G := (fun k => k = s ∨ k = q)) (fun k _ e => .inl e))
          obtain ⟨u6, o6⟩ : ∃ u, w5.cell? ⟨q, 6, none⟩ = some u := ⟨_, ho5.cell rfl⟩
          have f6 := ho5.f 6
          have HXN := hid hx
          have HO5 := hid ho5
          have HMO5 := hid hmo5
          have HR5 := hid hR5
          have HMM := hid hmm
          clear ho5 hmo5 hR5 hmm hm5 CL hx
          go_wp2_with fail
          go_roundw
          case rel =>
            refine ⟨j + 1, by omega, by go_num, ?_⟩

            have hdk2 := HDK.out (fun h => absurd h (by decide))
            rw [HEQ0.out]
            rw [HFX.out] at hdk2 ⊢
            exact fin5 HSQ.out HO5.out HMO5.out HR5.out HMM.out hdk2
          case measure => simp [intOf]; omega
      · as_aux_lemma =>
          have hb2 : st[j].toNat = 112 := hbv
          clear hbv
          have e0 : ((st[j].toNat : Int) == 119) = false := by rw [hb2]; rfl
          have e1 : ((st[j].toNat : Int) == 118) = false := by rw [hb2]; rfl
          have e2 : ((st[j].toNat : Int) == 115) = false := by rw [hb2]; rfl
          have e3 : ((st[j].toNat : Int) == 98) = false := by rw [hb2]; rfl
          have e4 : ((st[j].toNat : Int) == 110) = false := by rw [hb2]; rfl
          have e5 : ((st[j].toNat : Int) == 104) = false := by rw [hb2]; rfl
          have e6 : ((st[j].toNat : Int) == 112) = true := by rw [hb2]; rfl
          have e7 : ((st[j].toNat : Int) == 99) = false := by rw [hb2]; rfl
          have e8 : ((st[j].toNat : Int) == 86) = false := by rw [hb2]; rfl
          have e9 : ((st[j].toNat : Int) == 121) = false := by rw [hb2]; rfl
          clear hb2
          obtain ⟨A, a, c, ho, hmo, hR, hm, hdk⟩ := HST.out
          have hDK := fun h6 => DecOk.fld (i := 6) hdk hR.byt h6
          have HDK := hid hDK
          have HQC : Hid (q + 1 ≤ wr.heap.size) := hid (by have := ho.lt (by rw [ML_len]; decide); omega)
          clear hDK hdk
          obtain ⟨⟨t, S1⟩, hx⟩ : ∃ r, rTruth S = r := ⟨_, rfl⟩
          have CL := hid (rTruthR_any (hid hx) hR)
          go_wp2_with fail
          (with_reducible refine CL.out.mono ?_)
          rintro e w5 ⟨rfl, ⟨a5, c5, hR5⟩, hm5⟩
          have ho5 := ho.mutT (by rw [ML_len]; decide) hm5 (by show ¬ q = s; have := HSQ.out; omega)
          have hmo5 := hmo.mutT hm5 (fun k e => by have e : k = s := e; have := HSQ.out; omega)
          have hmm := hm.trans (hm5.mono (G := (fun k => k = s ∨ k = q)) (fun k _ e => .inl e))
          obtain ⟨u13, o13⟩ : ∃ u, w5.cell? ⟨q, 13, none⟩ = some u := ⟨_, ho5.cell rfl⟩
          have f13 := ho5.f 13
          have HXN := hid hx
          have HO5 := hid ho5
          have HMO5 := hid hmo5
          have HR5 := hid hR5
          have HMM := hid hmm
          clear ho5 hmo5 hR5 hmm hm5 CL hx
          have HB6' : Hid (∀ T U, rBal S1 = (T, U) → True) := hid (fun _ _ _ => trivial)
          cases t
          case false =>
            have HB6 : Hid (∀ b ∈ (rBal S1).2.b, b < 256) := hid (rBal_byt HR5.out.byt)
            have HFX : Hid (rFld 6 (m, S) = ({ m with has := false }, S1)) := hid (by simp [rFld, HXN.out])
            go_wp2_with fail
            go_roundw
            case rel =>
              refine ⟨j + 1, by omega, by go_num, ?_⟩
              have B6 : ∀ b ∈ (rBal (rTruth S).2).2.b, b < 256 := by
                rw [HXN.out]
                exact HB6.out
              have hdk2 := HDK.out (fun _ => B6)
              rw [HEQ0.out]
              rw [HFX.out] at hdk2 ⊢
              exact fin6f HSQ.out HO5.out HMO5.out HR5.out HMM.out hdk2
            case measure => simp [intOf]; omega
          case true =>
            obtain ⟨⟨bb, S2⟩, hx⟩ : ∃ r, rBal S1 = r := ⟨_, rfl⟩
            obtain ⟨⟨cc, S3⟩, hx3⟩ : ∃ r, rCmd S2 = r := ⟨_, rfl⟩
            have HB6 : Hid (∀ b ∈ (rBal S1).2.b, b < 256) := hid (rBal_byt HR5.out.byt)
            have HFX : Hid (rFld 6 (m, S) = ({ m with has := true, a := bb, c := cc }, S3)) := hid (by simp [rFld, HXN.out, hx, hx3])
            obtain ⟨w6, hw6⟩ : ∃ w6, w5.setCell ⟨q, 13, none⟩ (.bool true) = w6 := ⟨_, rfl⟩
            have hm56 : Mut (fun k => k = q) w5 w6 := by rw [← hw6]; exact mut1
            have ho : OutL w6 q (ML A { m with has := true }) := by rw [← hw6]; exact HO5.out.set (j := 13) (by rw [ML_len]; decide) (.bool true)
            have hmo : MsgO w6 (q + 1) A { m with has := true } := (HMO5.out.mutT hm56 (fun k e => by have e : k = q := e; omega) : MsgO w6 (q + 1) A m).has
            have hR := HR5.out.mutT hm56 (fun k e => by have e : k = q := e; have := HSQ.out; omega)
            have hm := HMM.out.trans (hm56.mono (G := (fun k => k = s ∨ k = q)) (fun k _ e => .inr e))
            have b13 : w6.cell? ⟨q, 13, none⟩ = some (.bool true) := ho.cell rfl
            have CL := hid (rBalR_any (hid hx) hR)
            clear HO5 HMO5 HR5 HMM hm56
            go_wp2_with fail
            (with_reducible refine CL.out.mono ?_)
            rintro e w7 ⟨rfl, ⟨a7, c7, hR7⟩, hm7⟩
            have ho7 := ho.mutT (by rw [ML_len]; decide) hm7 (by show ¬ q = s; have := HSQ.out; omega)
            have hmo7 := hmo.mutT hm7 (fun k e => by have e : k = s := e; have := HSQ.out; omega)
            have hmm7 := hm.trans (hm7.mono (G := (fun k => k = s ∨ k = q)) (fun k _ e => .inl e))
            obtain ⟨u10, o10⟩ : ∃ u, w7.cell? ⟨q, 10, none⟩ = some u := ⟨_, ho7.cell rfl⟩
            obtain ⟨u11, o11⟩ : ∃ u, w7.cell? ⟨q, 11, none⟩ = some u := ⟨_, ho7.cell rfl⟩
            obtain ⟨u12, o12⟩ : ∃ u, w7.cell? ⟨q, 12, none⟩ = some u := ⟨_, ho7.cell rfl⟩
            have f10 := ho7.f 10
            have f11 := ho7.f 11
            have f12 := ho7.f 12
            obtain ⟨w8, hw8⟩ : ∃ w8, ((w7.setCell ⟨q, 10, none⟩ (.int .u32 bb.1)).setCell ⟨q, 11, none⟩ (.int .u16 bb.2.1)).setCell ⟨q, 12, none⟩ (.int .u32 bb.2.2) = w8 := ⟨_, rfl⟩
            have hm78 : Mut (fun k => k = q) w7 w8 := by rw [← hw8]; exact (mut1.trans mut1).trans mut1
            have ho8 : OutL w8 q (ML A { m with has := true, a := bb }) := by rw [← hw8]; exact ((ho7.set (j := 10) (by rw [ML_len]; decide) (.int .u32 bb.1)).set (j := 11) (by simp only [List.length_set, ML_len]; decide) (.int .u16 bb.2.1)).set (j := 12) (by simp only [List.length_set, ML_len]; decide) (.int .u32 bb.2.2)
            have hmo8 : MsgO w8 (q + 1) A { m with has := true, a := bb } := (hmo7.mutT hm78 (fun k e => by have e : k = q := e; omega)).aa
            have hR := hR7.mutT hm78 (fun k e => by have e : k = q := e; have := HSQ.out; omega)
            have hmm8 := hmm7.trans (hm78.mono (G := (fun k => k = s ∨ k = q)) (fun k _ e => .inr e))
            have hx := hx3
            have CL3 := hid (cmdGetR_any (hid hx) hR)
            have HO8 := hid ho8
            have HMO8 := hid hmo8
            have HMM8 := hid hmm8
            have HSZ8 : Hid (q + 1 ≤ w8.heap.size) := hid (by have := ho8.lt (by rw [ML_len]; decide); omega)
            clear ho hmo hm hR7 hm7 ho7 hmo7 hmm7 hm78 ho8 hmo8 hR hmm8 CL hx hx3 b13
            go_wp2_with fail
            (with_reducible refine CL3.out.mono ?_)
            rintro e w9 ⟨qd, qm, ql, qs, kd, km, kl, ks, rfl, hod, hom, hol, hos, ⟨a5, c5, hR5⟩, hm9⟩
            have ho5 := HO8.out.mutT (by rw [ML_len]; decide) hm9 (by show ¬ q = s; have := HSQ.out; omega)
            have hmo5 := HMO8.out.mutT hm9 (fun k e => by have e : k = s := e; have := HSQ.out; omega)
            have hmm := HMM8.out.trans (hm9.mono (G := (fun k => k = s ∨ k = q)) (fun k _ e => .inl e))
            have hmo6 : MsgO w9 (q + 1) { A with da := qd, dc := kd, am := qm, cm := km, al := ql, cl := kl, ad := qs, cd := ks } { m with has := true, a := bb, c := cc } := ⟨hod.mono HSZ8.out, hom.mono2 HSZ8.out, hol.mono HSZ8.out, hos.mono2 HSZ8.out, hmo5.vm, hmo5.vl, hmo5.vs, hmo5.y⟩
            have ht : w9.there q 14 10 := ho5.there (by rw [ML_len]; decide)
            have HMO6 := hid hmo6
            have HO5 := hid ho5
            have HR5 := hid hR5
            have HMM := hid hmm
            clear hod hom hol hos hmo6 ho5 hmo5 hR5 hmm hm9 CL3 HO8 HMO8 HMM8
            obtain ⟨wN, hwN⟩ : ∃ W, w9.setCells q 14 (cmdV { A with da := qd, dc := kd, am := qm, cm := km, al := ql, cl := kl, ad := qs, cd := ks } cc).toList = W := ⟨_, rfl⟩
            have HWN := hid hwN
            clear hwN
            go_wp2_with (refine wpList_storeMC (A := { A with da := qd, dc := kd, am := qm, cm := km, al := ql, cl := kl, ad := qs, cd := ks }) (c := cc) ht rfl rfl rfl rfl ?_; rw [HWN.out])
            go_roundw
            case rel =>
              refine ⟨j + 1, by omega, by go_num, ?_⟩
              have B6 : ∀ b ∈ (rBal (rTruth S).2).2.b, b < 256 := by
                rw [HXN.out]
                exact HB6.out
              have hdk2 := HDK.out (fun _ => B6)
              rw [HEQ0.out]
              rw [HFX.out] at hdk2 ⊢
              rw [← HWN.out]
              exact fin6t HSQ.out HO5.out HMO6.out HR5.out HMM.out hdk2
            case measure => simp [intOf]; omega
      · as_aux_lemma =>
          have hb2 : st[j].toNat = 99 := hbv
          clear hbv
          have e0 : ((st[j].toNat : Int) == 119) = false := by rw [hb2]; rfl
          have e1 : ((st[j].toNat : Int) == 118) = false := by rw [hb2]; rfl
          have e2 : ((st[j].toNat : Int) == 115) = false := by rw [hb2]; rfl
          have e3 : ((st[j].toNat : Int) == 98) = false := by rw [hb2]; rfl
          have e4 : ((st[j].toNat : Int) == 110) = false := by rw [hb2]; rfl
          have e5 : ((st[j].toNat : Int) == 104) = false := by rw [hb2]; rfl
          have e6 : ((st[j].toNat : Int) == 112) = false := by rw [hb2]; rfl
          have e7 : ((st[j].toNat : Int) == 99) = true := by rw [hb2]; rfl
          have e8 : ((st[j].toNat : Int) == 86) = false := by rw [hb2]; rfl
          have e9 : ((st[j].toNat : Int) == 121) = false := by rw [hb2]; rfl
          clear hb2
          obtain ⟨A, a, c, ho, hmo, hR, hm, hdk⟩ := HST.out
          have hDK := fun h6 => DecOk.fld (i := 7) hdk hR.byt h6
          have HDK := hid hDK
          have HQC : Hid (q + 1 ≤ wr.heap.size) := hid (by have := ho.lt (by rw [ML_len]; decide); omega)
          clear hDK hdk
          obtain ⟨⟨cc, S1⟩, hx⟩ : ∃ r, rCmd S = r := ⟨_, rfl⟩
          have CL := hid (cmdGetR_any (hid hx) hR)
          have HFX : Hid (rFld 7 (m, S) = ({ m with c := cc }, S1)) := hid (by simp [rFld, hx])
          go_wp2_with fail
          (with_reducible refine CL.out.mono ?_)
          rintro e w5 ⟨qd, qm, ql, qs, kd, km, kl, ks, rfl, hod, hom, hol, hos, ⟨a5, c5, hR5⟩, hm5⟩
          have ho5 := ho.mutT (by rw [ML_len]; decide) hm5 (by show ¬ q = s; have := HSQ.out; omega)
          have hmo5 := hmo.mutT hm5 (fun k e => by have e : k = s := e; have := HSQ.out; omega)
          have hmm := hm.trans (hm5.mono (G := (fun k => k = s ∨ k = q)) (fun k _ e => .inl e))
          have hmo6 : MsgO w5 (q + 1) { A with da := qd, dc := kd, am := qm, cm := km, al := ql, cl := kl, ad := qs, cd := ks } { m with c := cc } := ⟨hod.mono HQC.out, hom.mono2 HQC.out, hol.mono HQC.out, hos.mono2 HQC.out, hmo5.vm, hmo5.vl, hmo5.vs, hmo5.y⟩
          have ht : w5.there q 14 10 := ho5.there (by rw [ML_len]; decide)
          have HMO6 := hid hmo6
          clear hod hom hol hos hmo6
          have HXN := hid hx
          have HO5 := hid ho5
          have HMO5 := hid hmo5
          have HR5 := hid hR5
          have HMM := hid hmm
          clear ho5 hmo5 hR5 hmm hm5 CL hx
          obtain ⟨wN, hwN⟩ : ∃ W, w5.setCells q 14 (cmdV { A with da := qd, dc := kd, am := qm, cm := km, al := ql, cl := kl, ad := qs, cd := ks } cc).toList = W := ⟨_, rfl⟩
          have HWN := hid hwN
          clear hwN
          go_wp2_with (refine wpList_storeMC (A := { A with da := qd, dc := kd, am := qm, cm := km, al := ql, cl := kl, ad := qs, cd := ks }) (c := cc) ht rfl rfl rfl rfl ?_; rw [HWN.out])
          go_roundw
          case rel =>
            refine ⟨j + 1, by omega, by go_num, ?_⟩

            have hdk2 := HDK.out (fun h => absurd h (by decide))
            rw [HEQ0.out]
            rw [HFX.out] at hdk2 ⊢
            rw [← HWN.out]
            exact fin7 HSQ.out HO5.out HMO6.out HR5.out HMM.out hdk2
          case measure => simp [intOf]; omega
      · as_aux_lemma =>
          have hb2 : st[j].toNat = 86 := hbv
          clear hbv
          have e0 : ((st[j].toNat : Int) == 119) = false := by rw [hb2]; rfl
          have e1 : ((st[j].toNat : Int) == 118) = false := by rw [hb2]; rfl
          have e2 : ((st[j].toNat : Int) == 115) = false := by rw [hb2]; rfl
          have e3 : ((st[j].toNat : Int) == 98) = false := by rw [hb2]; rfl
          have e4 : ((st[j].toNat : Int) == 110) = false := by rw [hb2]; rfl
          have e5 : ((st[j].toNat : Int) == 104) = false := by rw [hb2]; rfl
          have e6 : ((st[j].toNat : Int) == 112) = false := by rw [hb2]; rfl
          have e7 : ((st[j].toNat : Int) == 99) = false := by rw [hb2]; rfl
          have e8 : ((st[j].toNat : Int) == 86) = true := by rw [hb2]; rfl
          have e9 : ((st[j].toNat : Int) == 121) = false := by rw [hb2]; rfl
          clear hb2
          obtain ⟨A, a, c, ho, hmo, hR, hm, hdk⟩ := HST.out
          have hDK := fun h6 => DecOk.fld (i := 8) hdk hR.byt h6
          have HDK := hid hDK
          have HQC : Hid (q + 1 ≤ wr.heap.size) := hid (by have := ho.lt (by rw [ML_len]; decide); omega)
          clear hDK hdk
          obtain ⟨⟨V, S1⟩, hx⟩ : ∃ r, rView S = r := ⟨_, rfl⟩
          have CL := hid (viewGetQ_is (hid hx) hR)
          have HFX : Hid (rFld 8 (m, S) = ({ m with v := V }, S1)) := hid (by simp [rFld, hx])
          go_wp2_with fail
          (with_reducible refine CL.out.mono ?_)
          rintro e w5 ⟨vm, vl, vd, rfl, hom, hol, hos, ⟨a5, c5, hR5⟩, hm5⟩
          obtain ⟨qm, km, rfl, -⟩ := hom.row
          obtain ⟨ql, kl, rfl, -⟩ := hol.row
          obtain ⟨qs, ks, rfl, -⟩ := hos.row
          have ho5 := ho.mutT (by rw [ML_len]; decide) hm5 (by show ¬ q = s; have := HSQ.out; omega)
          have hmo5 := hmo.mutT hm5 (fun k e => by have e : k = s := e; have := HSQ.out; omega)
          have hmm := hm.trans (hm5.mono (G := (fun k => k = s ∨ k = q)) (fun k _ e => .inl e))
          have hmo6 : MsgO w5 (q + 1) { A with vm := qm, em := km, vl := ql, el := kl, vd := qs, ed := ks } { m with v := V } := ⟨hmo5.cd, hmo5.cm, hmo5.cl, hmo5.cs, hom.mono2 HQC.out, hol.mono HQC.out, hos.mono2 HQC.out, hmo5.y⟩
          have HMO6 := hid hmo6
          clear hom hol hos hmo6
          obtain ⟨u24, o24⟩ : ∃ u, w5.cell? ⟨q, 24, none⟩ = some u := ⟨_, ho5.cell rfl⟩
          have f24 := ho5.f 24
          obtain ⟨u25, o25⟩ : ∃ u, w5.cell? ⟨q, 25, none⟩ = some u := ⟨_, ho5.cell rfl⟩
          have f25 := ho5.f 25
          obtain ⟨u26, o26⟩ : ∃ u, w5.cell? ⟨q, 26, none⟩ = some u := ⟨_, ho5.cell rfl⟩
          have f26 := ho5.f 26
          obtain ⟨u27, o27⟩ : ∃ u, w5.cell? ⟨q, 27, none⟩ = some u := ⟨_, ho5.cell rfl⟩
          have f27 := ho5.f 27
          have HXN := hid hx
          have HO5 := hid ho5
          have HMO5 := hid hmo5
          have HR5 := hid hR5
          have HMM := hid hmm
          clear ho5 hmo5 hR5 hmm hm5 CL hx
          go_wp2_with fail
          go_roundw
          case rel =>
            refine ⟨j + 1, by omega, by go_num, ?_⟩

            have hdk2 := HDK.out (fun h => absurd h (by decide))
            rw [HEQ0.out]
            rw [HFX.out] at hdk2 ⊢
            exact fin8 HSQ.out HO5.out HMO6.out HR5.out HMM.out hdk2
          case measure => simp [intOf]; omega
      · as_aux_lemma =>
          have hb2 : st[j].toNat = 121 := hbv
          clear hbv
          have e0 : ((st[j].toNat : Int) == 119) = false := by rw [hb2]; rfl
          have e1 : ((st[j].toNat : Int) == 118) = false := by rw [hb2]; rfl
          have e2 : ((st[j].toNat : Int) == 115) = false := by rw [hb2]; rfl
          have e3 : ((st[j].toNat : Int) == 98) = false := by rw [hb2]; rfl
          have e4 : ((st[j].toNat : Int) == 110) = false := by rw [hb2]; rfl
          have e5 : ((st[j].toNat : Int) == 104) = false := by rw [hb2]; rfl
          have e6 : ((st[j].toNat : Int) == 112) = false := by rw [hb2]; rfl
          have e7 : ((st[j].toNat : Int) == 99) = false := by rw [hb2]; rfl
          have e8 : ((st[j].toNat : Int) == 86) = false := by rw [hb2]; rfl
          have e9 : ((st[j].toNat : Int) == 121) = true := by rw [hb2]; rfl
          clear hb2
          obtain ⟨A, a, c, ho, hmo, hR, hm, hdk⟩ := HST.out
          have hDK := fun h6 => DecOk.fld (i := 9) hdk hR.byt h6
          have HDK := hid hDK
          have HQC : Hid (q + 1 ≤ wr.heap.size) := hid (by have := ho.lt (by rw [ML_len]; decide); omega)
          clear hDK hdk
          obtain ⟨⟨y, S1⟩, hx⟩ : ∃ r, rBytes 200 S = r := ⟨_, rfl⟩
          have CL := hid (rBytesR_any (z := 200) 200 rfl (hid hx) (by decide) hR)
          have HFX : Hid (rFld 9 (m, S) = ({ m with y := y }, S1)) := hid (by simp [rFld, hx])
          go_wp2_with fail
          (with_reducible refine CL.out.mono ?_)
          rintro e w5 ⟨⟨vy, rfl, hoy⟩, ⟨a5, c5, hR5⟩, hm5⟩
          obtain ⟨qy, ky, rfl, -⟩ := hoy.row
          have ho5 := ho.mutT (by rw [ML_len]; decide) hm5 (by show ¬ q = s; have := HSQ.out; omega)
          have hmo5 := hmo.mutT hm5 (fun k e => by have e : k = s := e; have := HSQ.out; omega)
          have hmm := hm.trans (hm5.mono (G := (fun k => k = s ∨ k = q)) (fun k _ e => .inl e))
          have hmo6 : MsgO w5 (q + 1) { A with ya := qy, yc := ky } { m with y := y } := ⟨hmo5.cd, hmo5.cm, hmo5.cl, hmo5.cs, hmo5.vm, hmo5.vl, hmo5.vs, hoy.mono HQC.out⟩
          have HMO6 := hid hmo6
          clear hoy hmo6
          obtain ⟨u28, o28⟩ : ∃ u, w5.cell? ⟨q, 28, none⟩ = some u := ⟨_, ho5.cell rfl⟩
          have f28 := ho5.f 28
          have HXN := hid hx
          have HO5 := hid ho5
          have HMO5 := hid hmo5
          have HR5 := hid hR5
          have HMM := hid hmm
          clear ho5 hmo5 hR5 hmm hm5 CL hx
          go_wp2_with fail
          go_roundw
          case rel =>
            refine ⟨j + 1, by omega, by go_num, ?_⟩

            have hdk2 := HDK.out (fun h => absurd h (by decide))
            rw [HEQ0.out]
            rw [HFX.out] at hdk2 ⊢
            exact fin9 HSQ.out HO5.out HMO6.out HR5.out HMM.out hdk2
          case measure => simp [intOf]; omega
    · have t1 : decide ((j : Int) < (ns : Int)) = false := by simpa using hlt
      have t1' : decide (j < ns) = false := by simpa using hlt
      have hszn := HN.out
      have hj2 : j = ns := by omega
      clear HST
      have HST := hid hst
      clear hst
      obtain ⟨⟨m, S⟩, hxj⟩ : ∃ r, decL l x0 j = r := ⟨_, rfl⟩
      have hparts : rMsgParts ⟨bs, 0⟩ = (m, S) := by
        rw [← hxj]
        unfold rMsgParts decL
        rw [HX0'.out]
        have h1 : x0.1.kind = (k : Int) := by rw [HXX.out]
        have h2 : l.take j = l := List.take_of_length_le (by rw [HNL.out]; omega)
        rw [h1, HLF.out, h2]
      rw [hxj] at HST
      obtain ⟨A, a, c, ho, hmo, hR, hm, hdk⟩ := HST.out
      have HPARTS := hid hparts
      have hxr := HXR4.out.mutT (by rw [ML_len]; decide) hm (by have := HQ0.out; have := HSQ.out; rintro (e | e) <;> (try simp only at e) <;> omega)
      have htr : wr.there w.heap.size 0 29 := hxr.there (by rw [ML_len]; decide)
      have hbl := HBW.out.trans (hm.below HBW.out.size (fun k e => by have := HQ0.out; have := HSQ.out; rcases e with e | e <;> (try simp only at e) <;> omega))
      have THR : Hid (∀ W : World, Below wr.heap.size wr W → OutL W w.heap.size (ML zeroA zeroM)) := hid fun W h => hxr.ext h (hxr.lt (by rw [ML_len]; decide))
      have EN := hid (rEndR_any hR)
      have xm : MsgBox wr q A m := ho.r
      have CK := hid (msgCheckR_any (hmo.r hdk) hdk.s)
      obtain ⟨E, hE⟩ : ∃ E, rEnd S = E := ⟨_, rfl⟩
      rw [hE] at EN
      have HE := hid hE
      have HMO := hid hmo
      have HDK := hid hdk
      have HBL := hid hbl
      have HO := hid ho
      have HTR := hid htr
      have HQ0S : Hid (w.heap.size < q) := hid (by have := HQ0.out; have := HSQ.out; omega)
      clear ho hmo hR hm hdk hxj hparts hxr hbl hE HST
      have ZR : Hid (∀ (W : World) (A : MA) (m : MsgD), W.there w.heap.size 0 29 → (W.setCells w.heap.size 0 (ML A m)).rangeAt w.heap.size 0 (ML A m)) := hid fun W A m h => World.rangeAt_setCells_same _ _ _ _ h
      by_cases hE0 : E = 0
      · have q1 : ((E : Int) != 0) = false := by rw [hE0]; rfl
        have q2 : ((E : Int) == 0) = true := by rw [hE0]; rfl
        have HE0 := hid hE0
        clear hE0
        cases hc : msgChk m
        case false =>
          rw [hc] at CK
          have HM : Hid (rMsg bs = (zeroM, 5)) := hid (by unfold rMsg; rw [HPARTS.out]; simp only [HE.out, HE0.out, hc]; simp)
          clear hc
          go_wp2_with (first
            | (go_at_call 121; (with_reducible refine EN.out.mono ?_); rintro e wz ⟨rfl, rfl⟩)
            | (refine wpList_loadMw xm (by rfl) rfl rfl ?_)
            | (go_at_call 28; (with_reducible refine CK.out.mono ?_); rintro e w9 ⟨rfl, hb9⟩; have ht9 : w9.there w.heap.size 0 29 := (OutL.there (L := ML zeroA zeroM) (THR.out _ hb9) (by rw [ML_len]; decide)))
            | (refine wpList_storeM (A := zeroA) (m := zeroM) ht9 rfl rfl rfl rfl ?_))
          exact bodyPost_ret (v := .tuple #[.agg (ML zeroA zeroM).toArray, .int .i64 5]) (results_cell_tmp (p := 2) (q := 3) (ty := 46) rfl _ _ w.heap.size 0 (ML zeroA zeroM) _ rfl (ZR.out _ _ _ ht9) Try.underlying46 rfl (infoML _ _)) rfl ⟨zeroA, by first | (rw [HM.out]; done) | (rw [HM.out]; rfl), by rw [HM.out]; exact MsgO.zero _ _ rfl rfl rfl, by rw [HM.out]; exact DecOk.zero (k := 0), below_setCells _ _ (HBL.out.trans (hb9.mono HBL.out.size)) (Nat.le_refl _)⟩
        case true =>
          rw [hc] at CK
          have HM : Hid (rMsg bs = (m, 0)) := hid (by unfold rMsg; rw [HPARTS.out]; simp only [HE.out, HE0.out, hc]; simp)
          clear hc
          go_wp2_with (first
            | (go_at_call 121; (with_reducible refine EN.out.mono ?_); rintro e wz ⟨rfl, rfl⟩)
            | (refine wpList_loadMw xm (by rfl) rfl rfl ?_)
            | (go_at_call 28; (with_reducible refine CK.out.mono ?_); rintro e w9 ⟨rfl, hb9⟩; have ht9 : w9.there w.heap.size 0 29 := (OutL.there (L := ML zeroA zeroM) (THR.out _ hb9) (by rw [ML_len]; decide)); have xm9 := xm.ext hb9 xm.lt)
            | (refine wpList_loadM xm9 rfl rfl rfl ?_)
            | (refine wpList_storeM (A := A) (m := m) ht9 rfl rfl rfl rfl ?_))
          exact bodyPost_ret (v := .tuple #[.agg (ML A m).toArray, .int .i64 0]) (results_cell_tmp (p := 2) (q := 3) (ty := 46) rfl _ _ w.heap.size 0 (ML A m) _ rfl (ZR.out _ _ _ ht9) Try.underlying46 rfl (infoML _ _)) rfl ⟨A, by first | (rw [HM.out]; done) | (rw [HM.out]; rfl), by rw [HM.out]; exact ((HMO.out.ext hb9).mutT (mut_setCells (q := w.heap.size) _ _ _) (fun k e => by have e : k = w.heap.size := e; have := HQ0S.out; omega)).mono (by have := HQ0S.out; omega), by rw [HM.out]; exact HDK.out, below_setCells _ _ (HBL.out.trans (hb9.mono HBL.out.size)) (Nat.le_refl _)⟩
      · have q1 : ((E : Int) != 0) = true := by simp only [bne_iff_ne, ne_eq]; omega
        have q2 : ((E : Int) == 0) = false := by rw [beq_eq_false_iff_ne]; omega
        have HM : Hid (rMsg bs = (zeroM, E)) := hid (by unfold rMsg; rw [HPARTS.out]; simp only [HE.out]; rw [if_pos hE0])
        clear hE0
        go_wp2_with (first
          | (go_at_call 121; (with_reducible refine EN.out.mono ?_); rintro e wz ⟨rfl, rfl⟩)
          | (refine wpList_storeM (A := zeroA) (m := zeroM) HTR.out rfl rfl rfl rfl ?_))
        exact bodyPost_ret (v := .tuple #[.agg (ML zeroA zeroM).toArray, .int .i64 E]) (results_cell_tmp (p := 2) (q := 3) (ty := 46) rfl _ _ w.heap.size 0 (ML zeroA zeroM) _ rfl (ZR.out _ _ _ HTR.out) Try.underlying46 rfl (infoML _ _)) rfl ⟨zeroA, by first | (rw [HM.out]; done) | (rw [HM.out]; rfl), by rw [HM.out]; exact MsgO.zero _ _ rfl rfl rfl, by rw [HM.out]; exact DecOk.zero (k := 0), below_setCells _ _ HBL.out (Nat.le_refl _)⟩
end Go.Proofs.Ytbpfhclcjedkcaa

