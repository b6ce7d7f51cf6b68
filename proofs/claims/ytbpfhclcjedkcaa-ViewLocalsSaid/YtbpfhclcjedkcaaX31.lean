import Derived.Test.YtbpfhclcjedkcaaX27
namespace Go.Proofs.Ytbpfhclcjedkcaa
open Go.RowKit

/-! ### Reader.Stop; view.places -/
theorem rNum_is {s c most x : Nat} {z : Int} {a : Option Addr} {S S1 : RS} {w : World} (hz : z = (most : Int)) (hx : Hid (rNum most S = (x, S1))) (hm : most < 18446744073709551616) (hR : RdIs w s a c S) :
    Calls Try.prog 115 #[.pointer (some ⟨s, 0, none⟩), .int .u64 z] w fun e w' => e = .returned (.int .u64 x) ∧ (∃ a' c', RdIs w' s a' c' S1) ∧ Mut (fun k => k = s) w w' := by
  subst hz
  have := rNum_any most hm hR
  rw [hx.out] at this; exact this
theorem rErr_0 {s c : Nat} {a : Option Addr} {S : RS} {w : World} (h : RdIs w s a c S) (he : S.e = 0) :
    Calls Try.prog 194 #[.pointer (some ⟨s, 0, none⟩)] w fun e' w' => e' = .returned (.int .i64 0) ∧ w = w' := by
  have := rErr_any h
  rw [he] at this; exact this
theorem neq_rptr_nil (a : Addr) (w : World) : (binOp .neq 167 (.pointer (some a)) (.pointer none)).run Try.prog w = .ok (.bool true) w := by
  simp [go_sem]
set_option maxRecDepth 100000 in
set_option maxHeartbeats 800000 in
theorem stop_any {s c : Nat} {a : Option Addr} {S : RS} {w : World} (e0 : Nat) {z : Int} (hz : z = (e0 : Int)) (h0 : e0 ≠ 0) (he : S.e = 0) (h : RdIs w s a c S) :
    Calls Try.prog 125 #[.pointer (some ⟨s, 0, none⟩), .int .i64 z] w fun e w' => e = .returned (.tuple #[]) ∧ RdIs w' s a c ⟨S.b, e0⟩ ∧ Mut (fun k => k = s) w w' := by
  have C := hid (fail_any e0 h)
  have HF : Hid (failS S e0 = ⟨S.b, e0⟩) := hid (by unfold failS; rw [if_pos he])
  rw [HF.out] at C
  subst hz
  have t1 : ((e0 : Int) != 0) = true := by simp; omega
  have hnn := neq_rptr_nil ⟨s, 0, none⟩
  clear he
  go_enter Try.func125, Try.ntmps125
  go_wp2_with fail
  refine C.out.mono ?_
  rintro e w1 ⟨rfl, hR1, hM1⟩
  go_wp2
  exact bodyPost_end (results_none rfl _ _ _) rfl ⟨rfl, hR1, hM1⟩
theorem rPlacesN_stop {ms : List Pid} {n : Nat} {S : RS} (he : S.e ≠ 0) : rPlacesN ms n S = ([], S) := by
  cases n with
  | zero => rfl
  | succ n => unfold rPlacesN; rw [if_pos he]
theorem rPlacesN_nil {n : Nat} {S : RS} (he : S.e = 0) : rPlacesN [] (n + 1) S = ([], ⟨S.b, 3⟩) := by
  unfold rPlacesN; rw [if_neg (by simp [he]), if_pos rfl]
theorem rPlacesN_step {ms : List Pid} {n q : Nat} {S S2 : RS} (he : S.e = 0) (hm : ms ≠ []) (hp : rNum (ms.length - 1) S = (q, S2)) : rPlacesN ms (n + 1) S = (ms.getD q (0, 0) :: (rPlacesN ms n S2).1, (rPlacesN ms n S2).2) := by
  have h2 : rPlacesN ms (n + 1) S = if S.e ≠ 0 then ([], S) else if ms = [] then ([], ⟨S.b, 3⟩) else (ms.getD (rNum (ms.length - 1) S).1 (0, 0) :: (rPlacesN ms n (rNum (ms.length - 1) S).2).1, (rPlacesN ms n (rNum (ms.length - 1) S).2).2) := rfl
  rw [h2, if_neg (by simp [he]), if_neg hm, hp]
set_option maxRecDepth 100000 in
set_option maxHeartbeats 3200000 in
theorem places_any {s c cm nm : Nat} {a am : Option Addr} {S : RS} {ms : List Pid} {w : World} (hR : RdIs w s a c S) (hnm : Hid (ms.length = nm)) (hml : nm ≤ 1000) (hrow : PidRow w am ms) (hne : ∀ b off, am = some ⟨b, off, none⟩ → ms ≠ [] → b ≠ s) :
    Calls Try.prog 201 #[.pointer (some ⟨s, 0, none⟩), .slice am nm cm] w fun e w' => (∃ v, e = .returned v ∧ OwnP w' w.heap.size v (rPlaces ms S).1) ∧ (∃ a' c', RdIs w' s a' c' (rPlaces ms S).2) ∧ Mut (fun k => k = s) w w' := by
  obtain ⟨⟨n, S1⟩, hn⟩ : ∃ q, rNum 24 S = q := ⟨_, rfl⟩
  obtain ⟨⟨L, S2⟩, hL⟩ : ∃ q, rPlaces ms S = q := ⟨_, rfl⟩
  have HL0 : Hid (rPlacesN ms n S1 = (L, S2)) := hid (by rw [← hL]; unfold rPlaces; rw [hn])
  have hn24 : n ≤ 24 := by have := rNum_le (most := 24) (S := S); rw [hn] at this; exact this
  rw [hL]
  have HN := hid hn
  have C1 := hid (rNum_is (most := 24) (z := 24) rfl HN (by decide) hR)
  have hsw := hR.lt
  have HROW := hid hrow
  have HNE := hid hne
  clear hn hL hrow hne
  go_enter Try.func201, Try.ntmps201
  go_wp2_with fail
  refine C1.out.mono ?_
  rintro e w1 ⟨rfl, hR1, hM1⟩
  clear C1
  go_wp2_with fail
  go_loopw [5, 7] (fun v i wr => ∃ (k : Nat) (got : List Pid) (T : RS), k ≤ n ∧ i = .int .u64 k ∧ got.length = k ∧ (∃ a' c', RdIs wr s a' c' T) ∧ OwnP wr w.heap.size v got ∧ Hid (L = got ++ (rPlacesN ms (n - k) T).1 ∧ S2 = (rPlacesN ms (n - k) T).2) ∧ Mut (fun k => k = s) w wr) (fun _ i _ => n - (intOf i).toNat)
  case atStart =>
    exact ⟨0, [], S1, Nat.zero_le _, rfl, rfl, hR1, OwnP.nil _ _, hid (by rw [Nat.sub_zero, HL0.out]; simp), hM1⟩
  case round =>
    obtain ⟨k, got, T, hk, rfl, hgl, ⟨a2, c2, hRT⟩, hown, hM, hmut⟩ := hrel
    have hsz : w.heap.size ≤ wr.heap.size := hmut.size
    have HRT := hid hRT
    have HOWN := hid hown
    have HMU := hid hmut
    have HGL := hid hgl
    by_cases hlt : k < n
    · have t1 : decide ((k : Int) < (n : Int)) = true := by simpa using hlt
      have t1' : decide (k < n) = true := by simpa using hlt
      by_cases he : T.e = 0
      · have CE := hid (rErr_0 hRT he)
        have HE := hid he
        by_cases hms : ms = []
        · have hn0 : nm = 0 := by have := hnm.out; rw [hms] at this; exact this.symm
          have HMS := hid hms
          have CS := hid (stop_any 3 (z := 3) rfl (by decide) he hRT)
          have HEND : Hid (L = got ∧ S2 = ⟨T.b, 3⟩) := hid (by
            have := hM.out
            rw [show n - k = (n - (k + 1)) + 1 by omega, hms, rPlacesN_nil he] at this
            simpa using this)
          subst hn0
          clear hRT hown hmut hgl he hms hlt hM
          go_wp2_with fail
          refine CE.out.mono ?_
          rintro e w2 ⟨rfl, rfl⟩
          go_wp2_with fail
          refine CS.out.mono ?_
          rintro e w3 ⟨rfl, hR3, hM3⟩
          go_wp2
          go_ret
          exact ⟨⟨_, rfl, by rw [HEND.out.1]; exact HOWN.out.mutT hM3 (fun k e => by rw [e]; exact hsw)⟩, ⟨a2, c2, by rw [HEND.out.2]; exact hR3⟩, HMU.out.trans hM3⟩
        · have hn1 : 0 < nm := by rw [← hnm.out]; exact List.length_pos_iff.2 hms
          have t2 : ((nm : Int) == 0) = false := by simp; omega
          obtain ⟨⟨q, T2⟩, hq⟩ : ∃ p, rNum (ms.length - 1) T = p := ⟨_, rfl⟩
          have hql : q < nm := by have := rNum_le (most := ms.length - 1) (S := T); rw [hq] at this; simp only at this; rw [hnm.out] at this; omega
          have hqm : q < ms.length := by rw [hnm.out]; exact hql
          have hsub : ((nm : Int) - 1) = ((ms.length - 1 : Nat) : Int) := by rw [hnm.out]; omega
          have CN := hid (rNum_is hsub (hid hq) (by rw [hnm.out]; omega) hRT)
          have ew : IntKind.u64.wrap ((nm : Nat) : Int) = ((nm : Nat) : Int) := by rw [IntKind.wrap_u64]; omega
          have ew2 : IntKind.u64.wrap ((nm : Int) - 1) = (nm : Int) - 1 := by rw [IntKind.wrap_u64]; omega
          have HQ := hid hq
          have HQM := hid hqm
          have HM2 : Hid (L = (got ++ [ms.getD q (0, 0)]) ++ (rPlacesN ms (n - (k + 1)) T2).1 ∧ S2 = (rPlacesN ms (n - (k + 1)) T2).2) := hid (by
            have := hM.out
            rw [show n - k = (n - (k + 1)) + 1 by omega, rPlacesN_step he hms hq] at this
            exact ⟨by rw [this.1]; simp, this.2⟩)
          have HLT := hid hlt
          clear hRT hown hmut hgl he hms hM hq hqm hsub hlt
          go_wp2_with fail
          refine CE.out.mono ?_
          rintro e w2 ⟨rfl, rfl⟩
          go_wp2_with fail
          refine CN.out.mono ?_
          rintro e w3 ⟨rfl, ⟨a3, c3, hR3⟩, hM3⟩
          obtain ⟨pb, po, x, y, rfl, hx, d1, d2⟩ := (HROW.out.mutT (HMU.out.trans hM3) (fun b off h1 h2 => HNE.out b off h1 h2)).at (Below.refl _ _) rfl HQM.out
          have hxx : Hid ((x, y) = ms.getD q (0, 0)) := hid (by rw [hx, List.getD_eq_getElem?_getD, List.getElem?_eq_getElem HQM.out]; rfl)
          have hq4 : Below w3.heap.size w3 (w3.alloc (.cells #[.int .u16 x, .int .u32 y] 26)) := (Below.refl _ _).alloc (Nat.le_refl _) _
          have ho4 := ((HOWN.out.mutT hM3 (fun k e => by rw [e]; exact hsw))).ext hq4
          have HM4 := hid ((HMU.out.trans hM3).trans (Mut.of_below hq4))
          have HR4 := hid (hR3.ext hq4)
          clear hx CE CN hR3 hM3 hq4
          go_wp2_with (at_builtin; refine wpList_appendP ho4 (PidRow.one w3 x y) (by have := HGL.out; simp; omega) HM4.out.size rfl rfl rfl rfl ?_; intro v5 w5 hown5 hg5 hiff5; clear hiff5)
          go_roundw
          case rel =>
            have hgm := grown_mut hg5 ho4
            refine ⟨k + 1, got ++ [(x, y)], T2, by have := HLT.out; omega, by go_num, by rw [List.length_append, HGL.out]; rfl, ⟨a3, c3, HR4.out.mutT hgm (fun k e => by have e : w.heap.size ≤ k := e; omega)⟩, hown5, by rw [hxx.out]; exact HM2, ?_⟩
            exact mut_grown HM4.out hg5 ho4 (Nat.le_refl _)
          case measure => have := HLT.out; simp [intOf]; omega
      · have CE := hid (rErr_is hRT (hid rfl))
        have t2 : ((T.e : Int) == 0) = false := by simp; omega
        have HEND : Hid (L = got ∧ S2 = T) := hid (by
          have := hM.out
          rw [rPlacesN_stop he] at this
          simpa using this)
        clear hRT hown hmut hgl he hlt hM
        go_wp2_with fail
        refine CE.out.mono ?_
        rintro e w2 ⟨rfl, rfl⟩
        go_wp2
        go_ret
        exact ⟨⟨_, rfl, by rw [HEND.out.1]; exact HOWN.out⟩, ⟨a2, c2, by rw [HEND.out.2]; exact HRT.out⟩, HMU.out⟩
    · have t1 : decide ((k : Int) < (n : Int)) = false := by simpa using hlt
      have t1' : decide (k < n) = false := by simpa using hlt
      have HEND : Hid (L = got ∧ S2 = T) := hid (by
        have := hM.out
        rw [show n - k = 0 by omega] at this
        simpa [rPlacesN] using this)
      clear hRT hown hmut hgl hlt hM
      go_wp2
      go_ret
      exact ⟨⟨_, rfl, by rw [HEND.out.1]; exact HOWN.out⟩, ⟨a2, c2, by rw [HEND.out.2]; exact HRT.out⟩, HMU.out⟩
end Go.Proofs.Ytbpfhclcjedkcaa
