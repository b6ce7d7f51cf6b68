/- Parts of the proof: X43 X30 X40. -/
import Derived.Test.YtbpfhclcjedkcaaSm16
import Derived.Test.YtbpfhclcjedkcaaSm17
import Derived.Test.YtbpfhclcjedkcaaSm24
import Derived.Test.YtbpfhclcjedkcaaX38
namespace Go.Proofs.Ytbpfhclcjedkcaa
open Go.RowKit

/-! ### the reference's places -/
set_option maxRecDepth 100000 in
set_option maxHeartbeats 3200000 in
theorem placesR_any {s c cm nm : Nat} {a am : Option Addr} {S : RS} {ms : List Pid} {w : World} (hR : RdIs w s a c S) (hnm : Hid (ms.length = nm)) (hml : nm ≤ 1000) (hrow : PidRow w am ms) (hne : ∀ b off, am = some ⟨b, off, none⟩ → ms ≠ [] → b ≠ s) :
    Calls Try.prog 204 #[.pointer (some ⟨s, 0, none⟩), .slice am nm cm] w fun e w' => (∃ v, e = .returned v ∧ OwnP w' w.heap.size v (rPlaces ms S).1) ∧ (∃ a' c', RdIs w' s a' c' (rPlaces ms S).2) ∧ Mut (fun k => k = s) w w' := by
  obtain ⟨⟨n, S1⟩, hn⟩ : ∃ q, rNum 24 S = q := ⟨_, rfl⟩
  obtain ⟨⟨L, S2⟩, hL⟩ : ∃ q, rPlaces ms S = q := ⟨_, rfl⟩
  have HL0 : Hid (rPlacesN ms n S1 = (L, S2)) := hid (by rw [← hL]; unfold rPlaces; rw [hn])
  have hn24 : n ≤ 24 := by have := rNum_le (most := 24) (S := S); rw [hn] at this; exact this
  rw [hL]
  have HN := hid hn
  have C1 := hid (rNumR_is (most := 24) (z := 24) rfl HN hR)
  have hsw := hR.lt
  have HROW := hid hrow
  have HNE := hid hne
  clear hn hL hrow hne
  go_enter Try.func204, Try.ntmps204
  go_wp2_with fail
  refine C1.out.mono ?_
  rintro e w1 ⟨rfl, hR1, hM1⟩
  clear C1
  go_wp2_with fail
  go_loopw [6, 7] (fun v i wr => ∃ (k : Nat) (got : List Pid) (T : RS), k ≤ n ∧ i = .int .u64 k ∧ got.length = k ∧ (∃ a' c', RdIs wr s a' c' T) ∧ OwnP wr w.heap.size v got ∧ (ms = [] → got = []) ∧ Hid (L = got ++ (rPlacesN ms (n - k) T).1 ∧ S2 = (rPlacesN ms (n - k) T).2) ∧ Mut (fun k => k = s) w wr) (fun _ i _ => n - (intOf i).toNat)
  case atStart =>
    exact ⟨0, [], S1, Nat.zero_le _, rfl, rfl, hR1, OwnP.nil _ _, fun _ => rfl, hid (by rw [Nat.sub_zero, HL0.out]; simp), hM1⟩
  case round =>
    obtain ⟨k, got, T, hk, rfl, hgl, ⟨a2, c2, hRT⟩, hown, hgn, hM, hmut⟩ := hrel
    have r1 := hRT.c1
    have rf1 := hRT.f1
    have r0 := hRT.c0
    have hsz : w.heap.size ≤ wr.heap.size := hmut.size
    have HRT := hid hRT
    have HOWN := hid hown
    have HMU := hid hmut
    have HGL := hid hgl
    by_cases hlt : k < n
    · have t1 : decide ((k : Int) < (n : Int)) = true := by simpa using hlt
      have t1' : decide (k < n) = true := by simpa using hlt
      by_cases he : T.e = 0
      · rw [he] at r1
        have HE := hid he
        by_cases hms : ms = []
        · have hn0 : nm = 0 := by have := hnm.out; rw [hms] at this; exact this.symm
          have HMS := hid hms
          have hgot := hgn hms
          have HP := hid (hRT.bad 3)
          have HEND : Hid (L = got ∧ S2 = ⟨T.b, 3⟩) := hid (by
            have := hM.out
            rw [show n - k = (n - (k + 1)) + 1 by omega, hms, rPlacesN_nil he] at this
            simpa using this)
          subst hn0
          have HGOT := hid hgot
          clear hRT hown hmut hgl he hms hlt hM hgot hgn
          go_wp2
          go_ret
          exact ⟨⟨_, rfl, by rw [HEND.out.1, HGOT.out]; exact OwnP.nil _ _⟩, ⟨a2, c2, by rw [HEND.out.2]; exact HP.out⟩, HMU.out.trans mut1⟩
        · have hn1 : 0 < nm := by rw [← hnm.out]; exact List.length_pos_iff.2 hms
          have t2 : ((nm : Int) == 0) = false := by simp; omega
          obtain ⟨⟨q, T2⟩, hq⟩ : ∃ p, rNum (ms.length - 1) T = p := ⟨_, rfl⟩
          have hql : q < nm := by have := rNum_le (most := ms.length - 1) (S := T); rw [hq] at this; simp only at this; rw [hnm.out] at this; omega
          have hqm : q < ms.length := by rw [hnm.out]; exact hql
          have hsub : ((nm : Int) - 1) = ((ms.length - 1 : Nat) : Int) := by rw [hnm.out]; omega
          have CN := hid (rNumR_is hsub (hid hq) hRT)
          have ew : IntKind.u64.wrap ((nm : Nat) : Int) = ((nm : Nat) : Int) := by rw [IntKind.wrap_u64]; omega
          have ew2 : IntKind.u64.wrap ((nm : Int) - 1) = (nm : Int) - 1 := by rw [IntKind.wrap_u64]; omega
          have HQ := hid hq
          have HQM := hid hqm
          have HM2 : Hid (L = (got ++ [ms.getD q (0, 0)]) ++ (rPlacesN ms (n - (k + 1)) T2).1 ∧ S2 = (rPlacesN ms (n - (k + 1)) T2).2) := hid (by
            have := hM.out
            rw [show n - k = (n - (k + 1)) + 1 by omega, rPlacesN_step he hms hq] at this
            exact ⟨by rw [this.1]; simp, this.2⟩)
          have HLT := hid hlt
          have HMS : Hid (¬ ms = []) := hid hms
          clear hRT hown hmut hgl he hms hM hq hqm hsub hlt hgn
          go_wp2_with fail
          refine CN.out.mono ?_
          rintro e w3 ⟨rfl, ⟨a3, c3, hR3⟩, hM3⟩
          obtain ⟨pb, po, x, y, rfl, hx, d1, d2⟩ := (HROW.out.mutT (HMU.out.trans hM3) (fun b off h1 h2 => HNE.out b off h1 h2)).at (Below.refl _ _) rfl HQM.out
          have hxx : Hid ((x, y) = ms.getD q (0, 0)) := hid (by rw [hx, List.getD_eq_getElem?_getD, List.getElem?_eq_getElem HQM.out]; rfl)
          have hq4 : Below w3.heap.size w3 (w3.alloc (.cells #[.int .u16 x, .int .u32 y] 26)) := (Below.refl _ _).alloc (Nat.le_refl _) _
          have ho4 := ((HOWN.out.mutT hM3 (fun k e => by rw [e]; exact hsw))).ext hq4
          have HM4 := hid ((HMU.out.trans hM3).trans (Mut.of_below hq4))
          have HR4 := hid (hR3.ext hq4)
          clear hx CN hR3 hM3 hq4 r1 rf1 r0
          go_wp2_with (at_builtin; refine wpList_appendP ho4 (PidRow.one w3 x y) (by have := HGL.out; simp; omega) HM4.out.size rfl rfl rfl rfl ?_; intro v5 w5 hown5 hg5 hiff5; clear hiff5)
          go_roundw
          case rel =>
            have hgm := grown_mut hg5 ho4
            refine ⟨k + 1, got ++ [(x, y)], T2, by have := HLT.out; omega, by go_num, by rw [List.length_append, HGL.out]; rfl, ⟨a3, c3, HR4.out.mutT hgm (fun k e => by have e : w.heap.size ≤ k := e; omega)⟩, hown5, fun h => absurd h HMS.out, by rw [hxx.out]; exact HM2, ?_⟩
            exact mut_grown HM4.out hg5 ho4 (Nat.le_refl _)
          case measure => have := HLT.out; simp [intOf]; omega
      · have t2 : ((T.e : Int) == 0) = false := by simp; omega
        have HEND : Hid (L = got ∧ S2 = T) := hid (by
          have := hM.out
          rw [rPlacesN_stop he] at this
          simpa using this)
        clear hRT hown hmut hgl he hlt hM hgn
        go_wp2
        go_ret
        exact ⟨⟨_, rfl, by rw [HEND.out.1]; exact HOWN.out⟩, ⟨a2, c2, by rw [HEND.out.2]; exact HRT.out⟩, HMU.out⟩
    · have t1 : decide ((k : Int) < (n : Int)) = false := by simpa using hlt
      have t1' : decide (k < n) = false := by simpa using hlt
      have HEND : Hid (L = got ∧ S2 = T) := hid (by
        have := hM.out
        rw [show n - k = 0 by omega] at this
        simpa [rPlacesN] using this)
      clear hRT hown hmut hgl hlt hM hgn
      go_wp2
      go_ret
      exact ⟨⟨_, rfl, by rw [HEND.out.1]; exact HOWN.out⟩, ⟨a2, c2, by rw [HEND.out.2]; exact HRT.out⟩, HMU.out⟩
theorem placesR_is {s c cm nm : Nat} {a am : Option Addr} {S S1 : RS} {ms l : List Pid} {w : World} (hx : Hid (rPlaces ms S = (l, S1))) (hR : RdIs w s a c S) (hnm : Hid (ms.length = nm)) (hml : nm ≤ 1000) (hrow : PidRow w am ms) (hne : ∀ b off, am = some ⟨b, off, none⟩ → ms ≠ [] → b ≠ s) :
    Calls Try.prog 204 #[.pointer (some ⟨s, 0, none⟩), .slice am nm cm] w fun e w' => (∃ v, e = .returned v ∧ OwnP w' w.heap.size v l) ∧ (∃ a' c', RdIs w' s a' c' S1) ∧ Mut (fun k => k = s) w w' := by
  have := placesR_any (cm := cm) hR hnm hml hrow hne
  rw [hx.out] at this; exact this
end Go.Proofs.Ytbpfhclcjedkcaa

namespace Go.Proofs.Ytbpfhclcjedkcaa
open Go.RowKit

/-! ### CmdApart -/
theorem sameC_self (a : CmdD) : sameC a a = true := by
  unfold sameC
  simp [sameB_refl]
/-- a command as the row brings it -/
structure CmdIn (w : World) (da am al ad : Option Addr) (A : CmdD) : Prop where
  dr : ByteRow w da A.data
  db : ∀ b ∈ A.data, b < 256
  v : ViewR w am al ad A.v
  wf : WfView A.v
  fr : okP A.fr
  num : A.num < 18446744073709551616
  vw : A.vw < 18446744073709551616
theorem CmdIn.ext {w w' : World} {da am al ad : Option Addr} {A : CmdD} (h : CmdIn w da am al ad A) (hb : Below w.heap.size w w') : CmdIn w' da am al ad A := ⟨h.dr.ext hb, h.db, h.v.ext hb, h.wf, h.fr, h.num, h.vw⟩
theorem CmdIn.r {w : World} {da am al ad : Option Addr} {A : CmdD} (h : CmdIn w da am al ad A) (hg : greatC A = false) : CmdR w da am al ad A := ⟨h.dr, by have := (greatC_no hg).1; omega, h.db, h.v⟩
theorem CmdIn.laid {w : World} {da am al ad : Option Addr} {A : CmdD} (h : CmdIn w da am al ad A) : refCheckB A.v = true → Laid A.v := fun hc => laid_of_check h.wf.ms ((check_eq A.v h.wf.ms).trans hc)
theorem cmdF_small {w : World} {da am al ad : Option Addr} {A : CmdD} (h : CmdIn w da am al ad A) (hc : cmdChk A = 0) : (cmdF A).length ≤ 300000 := by
  rcases cmdChk_kinds hc with hk | ⟨hk, hnum, hvw, hdl⟩ | ⟨hk, hrc⟩
  · rw [cmdF_1 hk, short_lt (by decide)]; simp
  · obtain ⟨x, y, hx, hy, hx2, hy2⟩ := nat_pid (x := A.fr.1) (y := A.fr.2) h.fr
    rw [cmdF_2 (x := x) (y := y) hk (by rw [← hx, ← hy])]
    have h1 := short_len10 (n := x) (by omega)
    have h2 := short_len10 (n := y) (by omega)
    have h3 := short_len10 (n := A.num) (by omega)
    have h4 := short_len10 (n := A.vw) (by omega)
    have h5 := short_len10 (n := A.data.length) (by omega)
    have h6 := short_len10 (n := 2) (by decide)
    simp only [List.length_append]; omega
  · rw [cmdF_3 hk]
    have hL := h.laid hrc
    have h1 := short_len10 (n := 3) (by decide)
    have h2 := viewF_small hL
    rw [List.length_append]; omega

end Go.Proofs.Ytbpfhclcjedkcaa

namespace Go.Proofs.Ytbpfhclcjedkcaa
open Go.RowKit

/-! ### CmdBack -/
/-- a row of bytes of the call's own, whatever it holds -/
def OwnI (w : World) (base : Nat) (v : Value) (n : Nat) : Prop := ∃ cs : List Value, w.ownsRow base 5 1 v n cs ∧ ∀ c ∈ cs, ∃ z : Int, c = .int .u8 z
theorem OwnI.at {w : World} {base n : Nat} {v : Value} (h : OwnI w base v n) {k : Nat} (hk : k < n) : ∃ g c z, v = .slice (some ⟨g, 0, none⟩) n c ∧ base ≤ g ∧ g < w.heap.size ∧ w.cell? ⟨g, k, none⟩ = some (.int .u8 z) ∧ w.frozen? ⟨g, k, none⟩ = false ∧ ∀ x : Int, OwnI (w.setCell ⟨g, k, none⟩ (.int .u8 x)) base v n := by
  obtain ⟨cs, ho, hc⟩ := h
  have hl := ho.1
  rcases ho.2 with ⟨rfl, hn⟩ | ⟨g, cap, cur, rfl, hb, hg, -⟩
  · omega
  · have hkl : k < cs.length := by omega
    obtain ⟨z, hz⟩ := hc cs[k] (List.getElem_mem _)
    refine ⟨g, cap, z, rfl, hb, (Array.getElem?_eq_some_iff.1 hg).1, ?_, World.ownsRow.frozenAt ho k, fun x => ?_⟩
    · rw [World.ownsRow.cellAt ho k (by omega), List.getElem?_eq_getElem hkl, hz]
    · refine ⟨cs.set k (.int .u8 x), (World.ownsRow.stored ho k (.int .u8 x)).1, fun c hcc => ?_⟩
      rcases List.mem_or_eq_of_mem_set hcc with h1 | h1
      · exact hc c h1
      · exact ⟨x, h1⟩
theorem OwnI.ext {w w' : World} {base n : Nat} {v : Value} (h : OwnI w base v n) (hb : Below w.heap.size w w') : OwnI w' base v n := by
  obtain ⟨cs, ho, hc⟩ := h
  refine ⟨cs, ⟨ho.1, ?_⟩, hc⟩
  rcases ho.2 with hn | ⟨g, cap, cur, rfl, hbb, hgg, rest⟩
  · exact .inl hn
  · exact .inr ⟨g, cap, cur, rfl, hbb, (hb.block g (Array.getElem?_eq_some_iff.1 hgg).1).trans hgg, rest⟩
theorem OwnI.row {w : World} {base n : Nat} {v : Value} (h : OwnI w base v n) : ∃ a c, v = .slice a n c := by
  obtain ⟨cs, ho, hc⟩ := h
  rcases ho.2 with ⟨rfl, hn⟩ | ⟨g, cap, cur, rfl, -⟩
  · exact ⟨none, 0, by rw [hn]⟩
  · exact ⟨_, _, rfl⟩

end Go.Proofs.Ytbpfhclcjedkcaa

