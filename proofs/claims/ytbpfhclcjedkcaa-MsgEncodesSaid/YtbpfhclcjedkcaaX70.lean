/- Parts of the proof: X70. -/
import Derived.Test.YtbpfhclcjedkcaaX69
namespace Go.Proofs.Ytbpfhclcjedkcaa
open Go.RowKit
/-! ### the reference's Form of a message -/
/-- what a call lays, named -/
theorem rowN {K : Nat} {args : Array Value} {w w0 : World} {G F : List Nat} {N : Nat} (hb : Below w0.heap.size w0 w) (h : Calls Try.prog K args w fun e w' => ∃ v, e = .returned v ∧ OwnB w' w.heap.size v G ∧ Below w.heap.size w w') (hF : G = F) (hN : F.length = N) :
    Calls Try.prog K args w fun e w' => ∃ a c, e = .returned (.slice a N c) ∧ ByteRow w' a F ∧ Below w.heap.size w w' ∧ Below w0.heap.size w0 w' := by
  refine h.mono ?_
  rintro e w' ⟨v, rfl, hown, hb2⟩
  rw [hF] at hown
  obtain ⟨a, c, rfl, hr, -⟩ := hown.row
  rw [hN]
  exact ⟨a, c, rfl, hr, hb2, hb.trans (hb2.mono hb.size)⟩
theorem lettB_at {k : Int} {s : ByteArray} (hs : fstr k = s) {j : Nat} (hj : j < s.size) : ∃ i, i < 10 ∧ (ltrs k)[j]? = some i ∧ s[j].toNat = (lettB i).toNat ∧ hb k i = true := by
  subst hs
  have hjl : j < (ltrs k).length := by simpa [fstr, ByteArray.size] using hj
  refine ⟨(ltrs k)[j], ?_, List.getElem?_eq_getElem hjl, ?_, ?_⟩
  · have : ∀ i ∈ ltrs k, i < 10 := by
      rcases kinds k with rfl | rfl | rfl | rfl | rfl | rfl | rfl | rfl | rfl | rfl | rfl | rfl | rfl | rfl | h
      rotate_right
      · rw [h.2.2]; intro i hi; cases hi
      all_goals decide
    exact this _ (List.getElem_mem hjl)
  · show (((ltrs k).map lettB).toArray[j]'(by simpa using hjl)).toNat = _
    rw [List.getElem_toArray, List.getElem_map]
  · have hlt : (ltrs k)[j] < 10 := by
      have : ∀ i ∈ ltrs k, i < 10 := by
        rcases kinds k with rfl | rfl | rfl | rfl | rfl | rfl | rfl | rfl | rfl | rfl | rfl | rfl | rfl | rfl | h
        rotate_right
        · rw [h.2.2]; intro i hi; cases hi
        all_goals decide
      exact this _ (List.getElem_mem hjl)
    rw [hb_ltrs k hlt, List.contains_iff_mem]
    exact List.getElem_mem hjl
theorem fstr_size2 (k : Int) : (fstr k).size ≤ 1000 := by
  rcases kinds k with rfl | rfl | rfl | rfl | rfl | rfl | rfl | rfl | rfl | rfl | rfl | rfl | rfl | rfl | h
  rotate_right
  · unfold fstr; rw [h.2.2]; decide
  all_goals decide
theorem fstr_len (k : Int) : (fstr k).size = (ltrs k).length := by simp [fstr, ByteArray.size]
theorem flat_succ {l : List Nat} {j i : Nat} {g : Nat → List Nat} (h : l[j]? = some i) : (l.take (j + 1)).flatMap g = (l.take j).flatMap g ++ g i := by
  obtain ⟨hj, e⟩ := List.getElem?_eq_some_iff.1 h
  rw [List.take_succ_eq_append_getElem hj, e]; simp
theorem flat_le (l : List Nat) (j : Nat) (g : Nat → List Nat) : ((l.take j).flatMap g).length ≤ (l.flatMap g).length := by
  have : l.flatMap g = (l.take j).flatMap g ++ (l.drop j).flatMap g := by rw [← List.flatMap_append, List.take_append_drop]
  rw [this, List.length_append]; omega
set_option maxRecDepth 100000 in
set_option maxHeartbeats 12800000 in
theorem msgFormR_any {A : MA} {m : MsgD} {w : World} (hA : MsgE w A m) (hc : msgChk m = true) :
    Calls Try.prog 31 #[.agg (ML A m).toArray] w fun e w' => ∃ v, e = .returned v ∧ OwnB w' w.heap.size v (msgF m) ∧ Below w.heap.size w w' := by
  obtain ⟨W1, hW1⟩ : ∃ W1, w.alloc (.cells (ML A m).toArray 46) = W1 := ⟨_, rfl⟩
  have hB1 : Below w.heap.size w W1 := by rw [← hW1]; exact (Below.refl _ _).alloc (Nat.le_refl _) _
  have xA : MsgBox W1 w.heap.size A m := by rw [← hW1]; exact MsgBox.made A m w _ _
  have HX : Hid (∀ W, Below W1.heap.size W1 W → MsgBox W w.heap.size A m) := hid fun W h => xA.ext h xA.lt
  have hk := msgChk_ok hc
  have hkd : 1 ≤ m.kind ∧ m.kind ≤ 14 := by
    rcases kinds m.kind with e | e | e | e | e | e | e | e | e | e | e | e | e | e | ⟨-, e, -⟩
    all_goals first
      | omega
      | exact absurd e hk.f
  have hln := (encK_len hA hk hkd).2.2.2.2
  rw [encK_10] at hln
  have HA := hid (hA.ext hB1)
  have HOK := hid hk
  have HLN := hid hln
  have HB1 := hid hB1
  obtain ⟨kn, hkn⟩ : ∃ kn : Nat, m.kind = (kn : Int) := ⟨m.kind.toNat, by omega⟩
  have hk64 : kn < 18446744073709551616 := by omega
  have a0 : W1.cell? ⟨w.heap.size, 0, none⟩ = some (.int .i64 m.kind) := xA.cell rfl
  rw [hkn] at a0
  have KNEQ := hid hkn
  obtain ⟨s, hsf⟩ : ∃ s, fstr m.kind = s := ⟨_, rfl⟩
  obtain ⟨l, hlf⟩ : ∃ l, ltrs m.kind = l := ⟨_, rfl⟩
  have HSF := hid hsf
  have HLF := hid hlf
  obtain ⟨n, hn⟩ : ∃ n, s.size = n := ⟨_, rfl⟩
  have hnl : l.length = n := by rw [← hn, ← hsf, ← hlf]; exact (fstr_len _).symm
  have HNL := hid hnl
  have HN := hid hn
  have hn1000 : n ≤ 1000 := by rw [← hn, ← hsf]; exact fstr_size2 _
  have FL : Hid (∀ W, Calls Try.prog 100 #[.int .i64 kn] W fun e w' => e = .returned (.string s) ∧ Below W.heap.size W w') := hid fun W => by
    have := fieldsR_any m.kind W
    rw [hsf, hkn] at this; exact this
  have NM : Hid (Calls Try.prog 107 #[.int .u64 kn] W1 fun e w' => ∃ v, e = .returned v ∧ OwnB w' W1.heap.size v (short kn) ∧ Below W1.heap.size W1 w') := hid (numR_any kn hk64)
  have HSK : Hid (short kn = short m.kind.toNat) := hid (by rw [hkn]; simp)
  have ekn : IntKind.u64.wrap ((kn : Nat) : Int) = ((kn : Nat) : Int) := by rw [IntKind.wrap_u64]; omega
  clear hA hB1 xA hk hln hkn hsf hlf hnl hn hc hkd
  go_enter Try.func31, Try.ntmps31
  go_wp2_with (first
    | (go_at_call 107; (with_reducible refine NM.out.mono ?_); rintro e w2 ⟨v2, rfl, hown2, hb2⟩; have b0 : w2.cell? ⟨w.heap.size, 0, none⟩ = some (.int .i64 m.kind) := (HX.out _ hb2).cell rfl; have HO2 := hid hown2; have HB2 := hid hb2; clear hown2 hb2 NM; rw [KNEQ.out] at b0)
    | (go_at_call 100; (with_reducible refine (FL.out _).mono ?_); rintro e w3 ⟨rfl, hb3⟩))
  have hown3 := HO2.out.ext hb3
  have hb13 := HB2.out.trans (hb3.mono HB2.out.size)
  rw [HSK.out] at hown3
  have HO3 := hid hown3
  have HB3 := hid hb13
  clear hown3 hb13 hb3 HO2 HB2 a0 b0 FL ekn
  go_loopw [3, 5] (fun v j wr => ∃ k : Nat, k ≤ n ∧ j = .int .i64 k ∧ OwnB wr W1.heap.size v (short m.kind.toNat ++ (l.take k).flatMap (letF m)) ∧ Below W1.heap.size W1 wr) (fun _ j _ => n - (intOf j).toNat)
  case atStart => exact ⟨0, Nat.zero_le _, rfl, by simpa using HO3.out, HB3.out⟩
  case round =>
    obtain ⟨k, hk, rfl, hown, hb⟩ := hrel
    by_cases hlt : k < n
    · have t1 : decide ((k : Int) < (n : Int)) = true := by simpa using hlt
      have t1' : decide (k < n) = true := by simpa using hlt
      have hks : k < s.size := by rw [HN.out]; exact hlt
      have hszn := HN.out
      obtain ⟨i, hi10, hli, hbv, hbt⟩ := lettB_at HSF.out hks
      rw [HLF.out] at hli
      have HSP := hid (flat_succ (g := letF m) hli)
      obtain ⟨X, hX⟩ : ∃ X, short m.kind.toNat ++ (l.take k).flatMap (letF m) = X := ⟨_, rfl⟩
      have hXl : X.length ≤ 890800 := by
        have h1 := flat_le l k (letF m)
        have h2 := HLN.out
        unfold msgF at h2
        rw [HLF.out, List.length_append] at h2
        rw [← hX, List.length_append]; omega
      have HXF := hid hX
      rw [hX] at hown
      have HOWN := hid hown
      have HBT := hid hbt
      have HB := hid hb
      have Hr := Below.refl wr.heap.size wr
      clear hown hX hli hbt hb
      have hi : i = 0 ∨ i = 1 ∨ i = 2 ∨ i = 3 ∨ i = 4 ∨ i = 5 ∨ i = 6 ∨ i = 7 ∨ i = 8 ∨ i = 9 := by omega
      rcases hi with rfl | rfl | rfl | rfl | rfl | rfl | rfl | rfl | rfl | rfl
      · as_aux_lemma =>
          have hb2 : s[k].toNat = 119 := hbv
          clear hbv
          have e0 : ((s[k].toNat : Int) == 119) = true := by rw [hb2]; rfl
          have e1 : ((s[k].toNat : Int) == 118) = false := by rw [hb2]; rfl
          have e2 : ((s[k].toNat : Int) == 115) = false := by rw [hb2]; rfl
          have e3 : ((s[k].toNat : Int) == 98) = false := by rw [hb2]; rfl
          have e4 : ((s[k].toNat : Int) == 110) = false := by rw [hb2]; rfl
          have e5 : ((s[k].toNat : Int) == 104) = false := by rw [hb2]; rfl
          have e6 : ((s[k].toNat : Int) == 112) = false := by rw [hb2]; rfl
          have e7 : ((s[k].toNat : Int) == 99) = false := by rw [hb2]; rfl
          have e8 : ((s[k].toNat : Int) == 86) = false := by rw [hb2]; rfl
          have e9 : ((s[k].toNat : Int) == 121) = false := by rw [hb2]; rfl
          clear hb2
          obtain ⟨F, hF⟩ : ∃ F, letF m 0 = F := ⟨_, rfl⟩
          obtain ⟨N, hN⟩ : ∃ N, F.length = N := ⟨_, rfl⟩
          have hNl : N ≤ 890800 := by
            have := letF_len HA.out HOK.out HBT.out
            rw [hF, hN] at this
            unfold bnd at this
            split at this <;> first | omega | (split at this <;> first | omega | (split at this <;> first | omega | (split at this <;> omega)))
          have HF := hid hF
          have HNF := hid hN
          obtain ⟨x, y, hx1, hy1, hx2, hy2⟩ := nat_pid (x := m.who.1) (y := m.who.2) HA.out.s.who
          have a1 : wr.cell? ⟨w.heap.size, 1, none⟩ = some (.int .u16 m.who.1) := (HX.out _ HB.out).cell rfl
          have a2 : wr.cell? ⟨w.heap.size, 2, none⟩ = some (.int .u32 m.who.2) := (HX.out _ HB.out).cell rfl
          rw [hx1] at a1
          rw [hy1] at a2
          have C := hid (rowN Hr (pidPutR_any x y hx2 hy2) ((pidF_of hx1 hy1).symm.trans hF) hN)
          clear hF hN hx1 hy1
          go_wp2_with fail
          (with_reducible refine C.out.mono ?_)
          rintro e w6 ⟨a6, c6, rfl, hr6, hb6, -⟩
          have HO6 := hid (HOWN.out.ext hb6)
          have HR6 := hid hr6
          go_wp2_with (at_builtin; refine wpList_appendB HO6.out HR6.out HNF (by omega) (Nat.le_trans HB.out.size hb6.size) rfl rfl rfl rfl ?_; intro v9 w9 hown9 hg9 hat9)
          go_roundw
          case rel => exact ⟨k + 1, by omega, by go_num, by rw [HSP.out, ← List.append_assoc, HXF.out, HF.out]; exact hown9, below_of_grown (HB.out.trans (hb6.mono HB.out.size)) hg9 HO6.out (Nat.le_trans HB.out.size hb6.size) (Nat.le_refl _)⟩
          case measure => simp [intOf]; omega
      · as_aux_lemma =>
          have hb2 : s[k].toNat = 118 := hbv
          clear hbv
          have e0 : ((s[k].toNat : Int) == 119) = false := by rw [hb2]; rfl
          have e1 : ((s[k].toNat : Int) == 118) = true := by rw [hb2]; rfl
          have e2 : ((s[k].toNat : Int) == 115) = false := by rw [hb2]; rfl
          have e3 : ((s[k].toNat : Int) == 98) = false := by rw [hb2]; rfl
          have e4 : ((s[k].toNat : Int) == 110) = false := by rw [hb2]; rfl
          have e5 : ((s[k].toNat : Int) == 104) = false := by rw [hb2]; rfl
          have e6 : ((s[k].toNat : Int) == 112) = false := by rw [hb2]; rfl
          have e7 : ((s[k].toNat : Int) == 99) = false := by rw [hb2]; rfl
          have e8 : ((s[k].toNat : Int) == 86) = false := by rw [hb2]; rfl
          have e9 : ((s[k].toNat : Int) == 121) = false := by rw [hb2]; rfl
          clear hb2
          obtain ⟨F, hF⟩ : ∃ F, letF m 1 = F := ⟨_, rfl⟩
          obtain ⟨N, hN⟩ : ∃ N, F.length = N := ⟨_, rfl⟩
          have hNl : N ≤ 890800 := by
            have := letF_len HA.out HOK.out HBT.out
            rw [hF, hN] at this
            unfold bnd at this
            split at this <;> first | omega | (split at this <;> first | omega | (split at this <;> first | omega | (split at this <;> omega)))
          have HF := hid hF
          have HNF := hid hN
          have a3 : wr.cell? ⟨w.heap.size, 3, none⟩ = some (.int .u64 m.vw) := (HX.out _ HB.out).cell rfl
          have C := hid (rowN Hr (numR_any m.vw (by have := HOK.out.nums; omega)) hF hN)
          clear hF hN
          go_wp2_with fail
          (with_reducible refine C.out.mono ?_)
          rintro e w6 ⟨a6, c6, rfl, hr6, hb6, -⟩
          have HO6 := hid (HOWN.out.ext hb6)
          have HR6 := hid hr6
          go_wp2_with (at_builtin; refine wpList_appendB HO6.out HR6.out HNF (by omega) (Nat.le_trans HB.out.size hb6.size) rfl rfl rfl rfl ?_; intro v9 w9 hown9 hg9 hat9)
          go_roundw
          case rel => exact ⟨k + 1, by omega, by go_num, by rw [HSP.out, ← List.append_assoc, HXF.out, HF.out]; exact hown9, below_of_grown (HB.out.trans (hb6.mono HB.out.size)) hg9 HO6.out (Nat.le_trans HB.out.size hb6.size) (Nat.le_refl _)⟩
          case measure => simp [intOf]; omega
      · as_aux_lemma =>
          have hb2 : s[k].toNat = 115 := hbv
          clear hbv
          have e0 : ((s[k].toNat : Int) == 119) = false := by rw [hb2]; rfl
          have e1 : ((s[k].toNat : Int) == 118) = false := by rw [hb2]; rfl
          have e2 : ((s[k].toNat : Int) == 115) = true := by rw [hb2]; rfl
          have e3 : ((s[k].toNat : Int) == 98) = false := by rw [hb2]; rfl
          have e4 : ((s[k].toNat : Int) == 110) = false := by rw [hb2]; rfl
          have e5 : ((s[k].toNat : Int) == 104) = false := by rw [hb2]; rfl
          have e6 : ((s[k].toNat : Int) == 112) = false := by rw [hb2]; rfl
          have e7 : ((s[k].toNat : Int) == 99) = false := by rw [hb2]; rfl
          have e8 : ((s[k].toNat : Int) == 86) = false := by rw [hb2]; rfl
          have e9 : ((s[k].toNat : Int) == 121) = false := by rw [hb2]; rfl
          clear hb2
          obtain ⟨F, hF⟩ : ∃ F, letF m 2 = F := ⟨_, rfl⟩
          obtain ⟨N, hN⟩ : ∃ N, F.length = N := ⟨_, rfl⟩
          have hNl : N ≤ 890800 := by
            have := letF_len HA.out HOK.out HBT.out
            rw [hF, hN] at this
            unfold bnd at this
            split at this <;> first | omega | (split at this <;> first | omega | (split at this <;> first | omega | (split at this <;> omega)))
          have HF := hid hF
          have HNF := hid hN
          have a4 : wr.cell? ⟨w.heap.size, 4, none⟩ = some (.int .u64 m.sl) := (HX.out _ HB.out).cell rfl
          have C := hid (rowN Hr (numR_any m.sl (by have := HOK.out.nums; omega)) hF hN)
          clear hF hN
          go_wp2_with fail
          (with_reducible refine C.out.mono ?_)
          rintro e w6 ⟨a6, c6, rfl, hr6, hb6, -⟩
          have HO6 := hid (HOWN.out.ext hb6)
          have HR6 := hid hr6
          go_wp2_with (at_builtin; refine wpList_appendB HO6.out HR6.out HNF (by omega) (Nat.le_trans HB.out.size hb6.size) rfl rfl rfl rfl ?_; intro v9 w9 hown9 hg9 hat9)
          go_roundw
          case rel => exact ⟨k + 1, by omega, by go_num, by rw [HSP.out, ← List.append_assoc, HXF.out, HF.out]; exact hown9, below_of_grown (HB.out.trans (hb6.mono HB.out.size)) hg9 HO6.out (Nat.le_trans HB.out.size hb6.size) (Nat.le_refl _)⟩
          case measure => simp [intOf]; omega
      · as_aux_lemma =>
          have hb2 : s[k].toNat = 98 := hbv
          clear hbv
          have e0 : ((s[k].toNat : Int) == 119) = false := by rw [hb2]; rfl
          have e1 : ((s[k].toNat : Int) == 118) = false := by rw [hb2]; rfl
          have e2 : ((s[k].toNat : Int) == 115) = false := by rw [hb2]; rfl
          have e3 : ((s[k].toNat : Int) == 98) = true := by rw [hb2]; rfl
          have e4 : ((s[k].toNat : Int) == 110) = false := by rw [hb2]; rfl
          have e5 : ((s[k].toNat : Int) == 104) = false := by rw [hb2]; rfl
          have e6 : ((s[k].toNat : Int) == 112) = false := by rw [hb2]; rfl
          have e7 : ((s[k].toNat : Int) == 99) = false := by rw [hb2]; rfl
          have e8 : ((s[k].toNat : Int) == 86) = false := by rw [hb2]; rfl
          have e9 : ((s[k].toNat : Int) == 121) = false := by rw [hb2]; rfl
          clear hb2
          obtain ⟨F, hF⟩ : ∃ F, letF m 3 = F := ⟨_, rfl⟩
          obtain ⟨N, hN⟩ : ∃ N, F.length = N := ⟨_, rfl⟩
          have hNl : N ≤ 890800 := by
            have := letF_len HA.out HOK.out HBT.out
            rw [hF, hN] at this
            unfold bnd at this
            split at this <;> first | omega | (split at this <;> first | omega | (split at this <;> first | omega | (split at this <;> omega)))
          have HF := hid hF
          have HNF := hid hN
          obtain ⟨x, y, hx1, hy1, hx2, hy2⟩ := nat_pid (x := m.b.2.1) (y := m.b.2.2) HA.out.s.b
          have a7 : wr.cell? ⟨w.heap.size, 7, none⟩ = some (.int .u32 m.b.1) := (HX.out _ HB.out).cell rfl
          have a8 : wr.cell? ⟨w.heap.size, 8, none⟩ = some (.int .u16 m.b.2.1) := (HX.out _ HB.out).cell rfl
          have a9 : wr.cell? ⟨w.heap.size, 9, none⟩ = some (.int .u32 m.b.2.2) := (HX.out _ HB.out).cell rfl
          rw [hx1] at a8
          rw [hy1] at a9
          have eb : short m.b.1 ++ (short x ++ short y) = letF m 3 := by show _ = balF m.b; unfold balF; rw [pidF_of hx1 hy1]
          have C := hid (rowN Hr (balR_any m.b.1 x y HA.out.brd hx2 hy2) (eb.trans hF) hN)
          clear hF hN eb hx1 hy1
          go_wp2_with fail
          (with_reducible refine C.out.mono ?_)
          rintro e w6 ⟨a6, c6, rfl, hr6, hb6, -⟩
          have HO6 := hid (HOWN.out.ext hb6)
          have HR6 := hid hr6
          go_wp2_with (at_builtin; refine wpList_appendB HO6.out HR6.out HNF (by omega) (Nat.le_trans HB.out.size hb6.size) rfl rfl rfl rfl ?_; intro v9 w9 hown9 hg9 hat9)
          go_roundw
          case rel => exact ⟨k + 1, by omega, by go_num, by rw [HSP.out, ← List.append_assoc, HXF.out, HF.out]; exact hown9, below_of_grown (HB.out.trans (hb6.mono HB.out.size)) hg9 HO6.out (Nat.le_trans HB.out.size hb6.size) (Nat.le_refl _)⟩
          case measure => simp [intOf]; omega
      · as_aux_lemma =>
          have hb2 : s[k].toNat = 110 := hbv
          clear hbv
          have e0 : ((s[k].toNat : Int) == 119) = false := by rw [hb2]; rfl
          have e1 : ((s[k].toNat : Int) == 118) = false := by rw [hb2]; rfl
          have e2 : ((s[k].toNat : Int) == 115) = false := by rw [hb2]; rfl
          have e3 : ((s[k].toNat : Int) == 98) = false := by rw [hb2]; rfl
          have e4 : ((s[k].toNat : Int) == 110) = true := by rw [hb2]; rfl
          have e5 : ((s[k].toNat : Int) == 104) = false := by rw [hb2]; rfl
          have e6 : ((s[k].toNat : Int) == 112) = false := by rw [hb2]; rfl
          have e7 : ((s[k].toNat : Int) == 99) = false := by rw [hb2]; rfl
          have e8 : ((s[k].toNat : Int) == 86) = false := by rw [hb2]; rfl
          have e9 : ((s[k].toNat : Int) == 121) = false := by rw [hb2]; rfl
          clear hb2
          obtain ⟨F, hF⟩ : ∃ F, letF m 4 = F := ⟨_, rfl⟩
          obtain ⟨N, hN⟩ : ∃ N, F.length = N := ⟨_, rfl⟩
          have hNl : N ≤ 890800 := by
            have := letF_len HA.out HOK.out HBT.out
            rw [hF, hN] at this
            unfold bnd at this
            split at this <;> first | omega | (split at this <;> first | omega | (split at this <;> first | omega | (split at this <;> omega)))
          have HF := hid hF
          have HNF := hid hN
          have a5 : wr.cell? ⟨w.heap.size, 5, none⟩ = some (.int .u64 m.num) := (HX.out _ HB.out).cell rfl
          have C := hid (rowN Hr (numR_any m.num (by have := HOK.out.nums; omega)) hF hN)
          clear hF hN
          go_wp2_with fail
          (with_reducible refine C.out.mono ?_)
          rintro e w6 ⟨a6, c6, rfl, hr6, hb6, -⟩
          have HO6 := hid (HOWN.out.ext hb6)
          have HR6 := hid hr6
          go_wp2_with (at_builtin; refine wpList_appendB HO6.out HR6.out HNF (by omega) (Nat.le_trans HB.out.size hb6.size) rfl rfl rfl rfl ?_; intro v9 w9 hown9 hg9 hat9)
          go_roundw
          case rel => exact ⟨k + 1, by omega, by go_num, by rw [HSP.out, ← List.append_assoc, HXF.out, HF.out]; exact hown9, below_of_grown (HB.out.trans (hb6.mono HB.out.size)) hg9 HO6.out (Nat.le_trans HB.out.size hb6.size) (Nat.le_refl _)⟩
          case measure => simp [intOf]; omega
      · as_aux_lemma =>
          have hb2 : s[k].toNat = 104 := hbv
          clear hbv
          have e0 : ((s[k].toNat : Int) == 119) = false := by rw [hb2]; rfl
          have e1 : ((s[k].toNat : Int) == 118) = false := by rw [hb2]; rfl
          have e2 : ((s[k].toNat : Int) == 115) = false := by rw [hb2]; rfl
          have e3 : ((s[k].toNat : Int) == 98) = false := by rw [hb2]; rfl
          have e4 : ((s[k].toNat : Int) == 110) = false := by rw [hb2]; rfl
          have e5 : ((s[k].toNat : Int) == 104) = true := by rw [hb2]; rfl
          have e6 : ((s[k].toNat : Int) == 112) = false := by rw [hb2]; rfl
          have e7 : ((s[k].toNat : Int) == 99) = false := by rw [hb2]; rfl
          have e8 : ((s[k].toNat : Int) == 86) = false := by rw [hb2]; rfl
          have e9 : ((s[k].toNat : Int) == 121) = false := by rw [hb2]; rfl
          clear hb2
          obtain ⟨F, hF⟩ : ∃ F, letF m 5 = F := ⟨_, rfl⟩
          obtain ⟨N, hN⟩ : ∃ N, F.length = N := ⟨_, rfl⟩
          have hNl : N ≤ 890800 := by
            have := letF_len HA.out HOK.out HBT.out
            rw [hF, hN] at this
            unfold bnd at this
            split at this <;> first | omega | (split at this <;> first | omega | (split at this <;> first | omega | (split at this <;> omega)))
          have HF := hid hF
          have HNF := hid hN
          obtain ⟨hn, hhn⟩ : ∃ hn : Nat, m.hops = (hn : Int) := ⟨m.hops.toNat, by have := HOK.out.hops; omega⟩
          have hn4 : hn ≤ 4 := by have := HOK.out.hops; omega
          have a6 : wr.cell? ⟨w.heap.size, 6, none⟩ = some (.int .i64 m.hops) := (HX.out _ HB.out).cell rfl
          rw [hhn] at a6
          have eb : short hn = letF m 5 := by show _ = short m.hops.toNat; rw [hhn]; rfl
          have ehn : IntKind.u64.wrap ((hn : Nat) : Int) = ((hn : Nat) : Int) := by rw [IntKind.wrap_u64]; omega
          have C := hid (rowN Hr (numR_any hn (by omega)) (eb.trans hF) hN)
          clear hF hN eb hhn
          go_wp2_with fail
          (with_reducible refine C.out.mono ?_)
          rintro e w6 ⟨a6, c6, rfl, hr6, hb6, -⟩
          have HO6 := hid (HOWN.out.ext hb6)
          have HR6 := hid hr6
          go_wp2_with (at_builtin; refine wpList_appendB HO6.out HR6.out HNF (by omega) (Nat.le_trans HB.out.size hb6.size) rfl rfl rfl rfl ?_; intro v9 w9 hown9 hg9 hat9)
          go_roundw
          case rel => exact ⟨k + 1, by omega, by go_num, by rw [HSP.out, ← List.append_assoc, HXF.out, HF.out]; exact hown9, below_of_grown (HB.out.trans (hb6.mono HB.out.size)) hg9 HO6.out (Nat.le_trans HB.out.size hb6.size) (Nat.le_refl _)⟩
          case measure => simp [intOf]; omega
      · as_aux_lemma =>
          have hb2 : s[k].toNat = 112 := hbv
          clear hbv
          have e0 : ((s[k].toNat : Int) == 119) = false := by rw [hb2]; rfl
          have e1 : ((s[k].toNat : Int) == 118) = false := by rw [hb2]; rfl
          have e2 : ((s[k].toNat : Int) == 115) = false := by rw [hb2]; rfl
          have e3 : ((s[k].toNat : Int) == 98) = false := by rw [hb2]; rfl
          have e4 : ((s[k].toNat : Int) == 110) = false := by rw [hb2]; rfl
          have e5 : ((s[k].toNat : Int) == 104) = false := by rw [hb2]; rfl
          have e6 : ((s[k].toNat : Int) == 112) = true := by rw [hb2]; rfl
          have e7 : ((s[k].toNat : Int) == 99) = false := by rw [hb2]; rfl
          have e8 : ((s[k].toNat : Int) == 86) = false := by rw [hb2]; rfl
          have e9 : ((s[k].toNat : Int) == 121) = false := by rw [hb2]; rfl
          clear hb2
          obtain ⟨F, hF⟩ : ∃ F, letF m 6 = F := ⟨_, rfl⟩
          obtain ⟨N, hN⟩ : ∃ N, F.length = N := ⟨_, rfl⟩
          have hNl : N ≤ 890800 := by
            have := letF_len HA.out HOK.out HBT.out
            rw [hF, hN] at this
            unfold bnd at this
            split at this <;> first | omega | (split at this <;> first | omega | (split at this <;> first | omega | (split at this <;> omega)))
          have HF := hid hF
          have HNF := hid hN
          have a13 : wr.cell? ⟨w.heap.size, 13, none⟩ = some (.bool m.has) := (HX.out _ HB.out).cell rfl
          obtain ⟨hh, hhe⟩ : ∃ b, m.has = b := ⟨_, rfl⟩
          rw [hhe] at a13
          have HH := hid hhe
          cases hh
          case false =>
            have eb : short (if false = true then 1 else 0) = letF m 6 := by show _ = (if m.has then _ else _); rw [hhe]; rfl
            have C := hid (rowN Hr (truthR_any false) (eb.trans hF) hN)
            clear hF hN eb hhe
            go_wp2_with fail
            (with_reducible refine C.out.mono ?_)
            rintro e w6 ⟨a6, c6, rfl, hr6, hb6, -⟩
            have b13 : w6.cell? ⟨w.heap.size, 13, none⟩ = some (.bool false) := by rw [← HH.out]; exact (HX.out _ (HB.out.trans (hb6.mono HB.out.size))).cell rfl
            have HO6 := hid (HOWN.out.ext hb6)
            have HR6 := hid hr6
            go_wp2_with (at_builtin; refine wpList_appendB HO6.out HR6.out HNF (by omega) (Nat.le_trans HB.out.size hb6.size) rfl rfl rfl rfl ?_; intro v9 w9 hown9 hg9 hat9)
            go_roundw
            case rel => exact ⟨k + 1, by omega, by go_num, by rw [HSP.out, ← List.append_assoc, HXF.out, HF.out]; exact hown9, below_of_grown (HB.out.trans (hb6.mono HB.out.size)) hg9 HO6.out (Nat.le_trans HB.out.size hb6.size) (Nat.le_refl _)⟩
            case measure => simp [intOf]; omega
          case true =>
            obtain ⟨x, y, hx1, hy1, hx2, hy2⟩ := nat_pid (x := m.a.2.1) (y := m.a.2.2) HA.out.s.a
            have hck := (HOK.out.a hhe).2
            obtain ⟨F1, hF1⟩ : ∃ F1, short (if true = true then 1 else 0) = F1 := ⟨_, rfl⟩
            obtain ⟨F2, hF2⟩ : ∃ F2, short m.a.1 ++ (short x ++ short y) = F2 := ⟨_, rfl⟩
            obtain ⟨F3, hF3⟩ : ∃ F3, cmdF m.c = F3 := ⟨_, rfl⟩
            obtain ⟨N2, hN2⟩ : ∃ N, F2.length = N := ⟨_, rfl⟩
            obtain ⟨N3, hN3⟩ : ∃ N, F3.length = N := ⟨_, rfl⟩
            have hl1 : F1.length ≤ 10 := by rw [← hF1]; exact short_len10 (n := 1) (by decide)
            have hl2 : N2 ≤ 30 := by
              have l2 := short_len10 (n := m.a.1) (by have := HA.out.ard; omega)
              have l3 := short_len10 (n := x) (by omega)
              have l4 := short_len10 (n := y) (by omega)
              rw [← hN2, ← hF2]; simp only [List.length_append]; omega
            have hl3 : N3 ≤ 300000 := by rw [← hN3, ← hF3]; exact cmdF_small HA.out.cin hck
            have HSUM : Hid ((F1 ++ F2) ++ F3 = F) := hid (by
              rw [← hF, ← hF1, ← hF2, ← hF3]
              show _ = (if m.has then _ else _)
              rw [hhe]
              simp only [if_true]
              unfold balF
              rw [pidF_of hx1 hy1, List.append_assoc])
            have C1 : Hid (Calls Try.prog 110 #[.bool true] wr fun e w' => ∃ v, e = .returned v ∧ OwnB w' wr.heap.size v F1 ∧ Below wr.heap.size wr w') := hid (by rw [← hF1]; exact truthR_any true)
            have C2 : Hid (∀ W, Below wr.heap.size wr W → Calls Try.prog 109 #[.agg #[.int .u32 m.a.1, .int .u16 x, .int .u32 y]] W fun e w' => ∃ a c, e = .returned (.slice a N2 c) ∧ ByteRow w' a F2 ∧ Below W.heap.size W w' ∧ Below wr.heap.size wr w') := hid fun W h => rowN h (balR_any m.a.1 x y HA.out.ard hx2 hy2) hF2 hN2
            have C3 : Hid (∀ W, Below wr.heap.size wr W → Calls Try.prog 111 #[.agg (cmdV A m.c)] W fun e w' => ∃ a c, e = .returned (.slice a N3 c) ∧ ByteRow w' a F3 ∧ Below W.heap.size W w' ∧ Below wr.heap.size wr w') := hid fun W h => rowN h (cmdFormR_any (dc := A.dc) (cm := A.cm) (cl := A.cl) (cd := A.cd) (HA.out.cin.ext (HB.out.trans (h.mono HB.out.size))) HA.out.cdl hck) hF3 hN3
            have HN2 := hid hN2
            have HN3 := hid hN3
            have HX1 := hid hx1
            have HY1 := hid hy1
            clear hF hN hF1 hF2 hF3 hN2 hN3 hck hhe hx1 hy1
            go_wp2_with fail
            (with_reducible refine C1.out.mono ?_)
            rintro e w4 ⟨v4, rfl, hown4, hb4⟩
            have hx4 := HX.out _ (HB.out.trans (hb4.mono HB.out.size))
            have b13 : w4.cell? ⟨w.heap.size, 13, none⟩ = some (.bool true) := by rw [← HH.out]; exact hx4.cell rfl
            have b10 : w4.cell? ⟨w.heap.size, 10, none⟩ = some (.int .u32 m.a.1) := hx4.cell rfl
            have b11 : w4.cell? ⟨w.heap.size, 11, none⟩ = some (.int .u16 m.a.2.1) := hx4.cell rfl
            have b12 : w4.cell? ⟨w.heap.size, 12, none⟩ = some (.int .u32 m.a.2.2) := hx4.cell rfl
            rw [HX1.out] at b11
            rw [HY1.out] at b12
            have HO4 := hid hown4
            have HB4 := hid hb4
            clear hown4 hx4 C1 a13
            go_wp2_with fail
            (with_reducible refine (C2.out _ hb4).mono ?_)
            rintro e w5 ⟨a5, c5, rfl, hr5, hb45, hb5⟩
            have HO5 := hid (HO4.out.ext hb45)
            have HR5 := hid hr5
            clear hr5 b10 b11 b12 b13 hb4 HO4
            go_wp2_with (first | (refine wpList_loadMC xm rfl rfl rfl ?_) | (at_builtin; refine wpList_appendB HO5.out HR5.out HN2 (by omega) hb5.size rfl rfl rfl rfl ?_; intro v7 w7 hown7 hg7 hat7; have hb7 := below_of_grown hb5 hg7 HO5.out hb5.size (Nat.le_refl _); have xm := HX.out _ (HB.out.trans (hb7.mono HB.out.size)); have HO7 := hid hown7; clear hown7 hg7 hat7))
            (with_reducible refine (C3.out _ hb7).mono ?_)
            rintro e w8 ⟨a8, c8, rfl, hr8, hb78, hb8⟩
            have HO8 := hid (HO7.out.ext hb78)
            have HR8 := hid hr8
            clear hr8 xm HO7
            go_wp2_with (at_builtin; first
              | (refine wpList_appendB HO8.out HR8.out HN3 (by rw [List.length_append, HN2.out]; omega) hb8.size rfl rfl rfl rfl ?_; intro v6 w6 hown6 hg6 hat6; have hb6 := below_of_grown hb8 hg6 HO8.out hb8.size (Nat.le_refl _); have HO6 := hid (HOWN.out.ext hb6); rw [HSUM.out] at hown6; obtain ⟨a6, c6, e6, hr6, -⟩ := hown6.row; rw [HNF.out] at e6; subst e6; have HR6 := hid hr6; clear hown6 hr6 hg6 hat6)
              | (refine wpList_appendB HO6.out HR6.out HNF (by omega) (Nat.le_trans HB.out.size hb6.size) rfl rfl rfl rfl ?_; intro v9 w9 hown9 hg9 hat9))
            go_roundw
            case rel => exact ⟨k + 1, by omega, by go_num, by rw [HSP.out, ← List.append_assoc, HXF.out, HF.out]; exact hown9, below_of_grown (HB.out.trans (hb6.mono HB.out.size)) hg9 HO6.out (Nat.le_trans HB.out.size hb6.size) (Nat.le_refl _)⟩
            case measure => simp [intOf]; omega
      · as_aux_lemma =>
          have hb2 : s[k].toNat = 99 := hbv
          clear hbv
          have e0 : ((s[k].toNat : Int) == 119) = false := by rw [hb2]; rfl
          have e1 : ((s[k].toNat : Int) == 118) = false := by rw [hb2]; rfl
          have e2 : ((s[k].toNat : Int) == 115) = false := by rw [hb2]; rfl
          have e3 : ((s[k].toNat : Int) == 98) = false := by rw [hb2]; rfl
          have e4 : ((s[k].toNat : Int) == 110) = false := by rw [hb2]; rfl
          have e5 : ((s[k].toNat : Int) == 104) = false := by rw [hb2]; rfl
          have e6 : ((s[k].toNat : Int) == 112) = false := by rw [hb2]; rfl
          have e7 : ((s[k].toNat : Int) == 99) = true := by rw [hb2]; rfl
          have e8 : ((s[k].toNat : Int) == 86) = false := by rw [hb2]; rfl
          have e9 : ((s[k].toNat : Int) == 121) = false := by rw [hb2]; rfl
          clear hb2
          obtain ⟨F, hF⟩ : ∃ F, letF m 7 = F := ⟨_, rfl⟩
          obtain ⟨N, hN⟩ : ∃ N, F.length = N := ⟨_, rfl⟩
          have hNl : N ≤ 890800 := by
            have := letF_len HA.out HOK.out HBT.out
            rw [hF, hN] at this
            unfold bnd at this
            split at this <;> first | omega | (split at this <;> first | omega | (split at this <;> first | omega | (split at this <;> omega)))
          have HF := hid hF
          have HNF := hid hN
          have xm := HX.out _ HB.out
          have C := hid ((rowN Hr (cmdFormR_any (dc := A.dc) (cm := A.cm) (cl := A.cl) (cd := A.cd) (HA.out.cin.ext HB.out) HA.out.cdl (HOK.out.c HBT.out)) hF hN : Calls Try.prog 111 #[.agg (cmdV A m.c)] wr fun e w' => ∃ a c, e = .returned (.slice a N c) ∧ ByteRow w' a F ∧ Below wr.heap.size wr w' ∧ Below wr.heap.size wr w'))
          clear hF hN
          go_wp2_with (refine wpList_loadMC xm rfl rfl rfl ?_)
          (with_reducible refine C.out.mono ?_)
          rintro e w6 ⟨a6, c6, rfl, hr6, hb6, -⟩
          have HO6 := hid (HOWN.out.ext hb6)
          have HR6 := hid hr6
          go_wp2_with (at_builtin; refine wpList_appendB HO6.out HR6.out HNF (by omega) (Nat.le_trans HB.out.size hb6.size) rfl rfl rfl rfl ?_; intro v9 w9 hown9 hg9 hat9)
          go_roundw
          case rel => exact ⟨k + 1, by omega, by go_num, by rw [HSP.out, ← List.append_assoc, HXF.out, HF.out]; exact hown9, below_of_grown (HB.out.trans (hb6.mono HB.out.size)) hg9 HO6.out (Nat.le_trans HB.out.size hb6.size) (Nat.le_refl _)⟩
          case measure => simp [intOf]; omega
      · as_aux_lemma =>
          have hb2 : s[k].toNat = 86 := hbv
          clear hbv
          have e0 : ((s[k].toNat : Int) == 119) = false := by rw [hb2]; rfl
          have e1 : ((s[k].toNat : Int) == 118) = false := by rw [hb2]; rfl
          have e2 : ((s[k].toNat : Int) == 115) = false := by rw [hb2]; rfl
          have e3 : ((s[k].toNat : Int) == 98) = false := by rw [hb2]; rfl
          have e4 : ((s[k].toNat : Int) == 110) = false := by rw [hb2]; rfl
          have e5 : ((s[k].toNat : Int) == 104) = false := by rw [hb2]; rfl
          have e6 : ((s[k].toNat : Int) == 112) = false := by rw [hb2]; rfl
          have e7 : ((s[k].toNat : Int) == 99) = false := by rw [hb2]; rfl
          have e8 : ((s[k].toNat : Int) == 86) = true := by rw [hb2]; rfl
          have e9 : ((s[k].toNat : Int) == 121) = false := by rw [hb2]; rfl
          clear hb2
          obtain ⟨F, hF⟩ : ∃ F, letF m 8 = F := ⟨_, rfl⟩
          obtain ⟨N, hN⟩ : ∃ N, F.length = N := ⟨_, rfl⟩
          have hNl : N ≤ 890800 := by
            have := letF_len HA.out HOK.out HBT.out
            rw [hF, hN] at this
            unfold bnd at this
            split at this <;> first | omega | (split at this <;> first | omega | (split at this <;> first | omega | (split at this <;> omega)))
          have HF := hid hF
          have HNF := hid hN
          obtain ⟨vi, hvi⟩ : ∃ vi : Nat, m.v.id = (vi : Int) := ⟨m.v.id.toNat, by have := HA.out.vid; omega⟩
          have hrc := HOK.out.v HBT.out
          have hL := laid_of_check HA.out.s.vwf ((check_eq m.v HA.out.s.vwf).trans hrc)
          have a24 : wr.cell? ⟨w.heap.size, 24, none⟩ = some (.int .u64 m.v.id) := (HX.out _ HB.out).cell rfl
          have a25 : wr.cell? ⟨w.heap.size, 25, none⟩ = some (.slice A.vm m.v.ms.length A.em) := (HX.out _ HB.out).cell rfl
          have a26 : wr.cell? ⟨w.heap.size, 26, none⟩ = some (.slice A.vl m.v.ls.length A.el) := (HX.out _ HB.out).cell rfl
          have a27 : wr.cell? ⟨w.heap.size, 27, none⟩ = some (.slice A.vd m.v.ds.length A.ed) := (HX.out _ HB.out).cell rfl
          rw [hvi] at a24
          have C := hid (rowN Hr (viewFormR_any (cm := A.em) (cl := A.el) (cd := A.ed) hvi (HA.out.r.v.ext HB.out) (hid rfl) (hid rfl) (hid rfl) hL hrc) hF hN)
          clear hF hN hvi hrc hL
          go_wp2_with fail
          (with_reducible refine C.out.mono ?_)
          rintro e w6 ⟨a6, c6, rfl, hr6, hb6, -⟩
          have HO6 := hid (HOWN.out.ext hb6)
          have HR6 := hid hr6
          go_wp2_with (at_builtin; refine wpList_appendB HO6.out HR6.out HNF (by omega) (Nat.le_trans HB.out.size hb6.size) rfl rfl rfl rfl ?_; intro v9 w9 hown9 hg9 hat9)
          go_roundw
          case rel => exact ⟨k + 1, by omega, by go_num, by rw [HSP.out, ← List.append_assoc, HXF.out, HF.out]; exact hown9, below_of_grown (HB.out.trans (hb6.mono HB.out.size)) hg9 HO6.out (Nat.le_trans HB.out.size hb6.size) (Nat.le_refl _)⟩
          case measure => simp [intOf]; omega
      · as_aux_lemma =>
          have hb2 : s[k].toNat = 121 := hbv
          clear hbv
          have e0 : ((s[k].toNat : Int) == 119) = false := by rw [hb2]; rfl
          have e1 : ((s[k].toNat : Int) == 118) = false := by rw [hb2]; rfl
          have e2 : ((s[k].toNat : Int) == 115) = false := by rw [hb2]; rfl
          have e3 : ((s[k].toNat : Int) == 98) = false := by rw [hb2]; rfl
          have e4 : ((s[k].toNat : Int) == 110) = false := by rw [hb2]; rfl
          have e5 : ((s[k].toNat : Int) == 104) = false := by rw [hb2]; rfl
          have e6 : ((s[k].toNat : Int) == 112) = false := by rw [hb2]; rfl
          have e7 : ((s[k].toNat : Int) == 99) = false := by rw [hb2]; rfl
          have e8 : ((s[k].toNat : Int) == 86) = false := by rw [hb2]; rfl
          have e9 : ((s[k].toNat : Int) == 121) = true := by rw [hb2]; rfl
          clear hb2
          obtain ⟨F, hF⟩ : ∃ F, letF m 9 = F := ⟨_, rfl⟩
          obtain ⟨N, hN⟩ : ∃ N, F.length = N := ⟨_, rfl⟩
          have hNl : N ≤ 890800 := by
            have := letF_len HA.out HOK.out HBT.out
            rw [hF, hN] at this
            unfold bnd at this
            split at this <;> first | omega | (split at this <;> first | omega | (split at this <;> first | omega | (split at this <;> omega)))
          have HF := hid hF
          have HNF := hid hN
          have a28 : wr.cell? ⟨w.heap.size, 28, none⟩ = some (.slice A.ya m.y.length A.yc) := (HX.out _ HB.out).cell rfl
          have C := hid (rowN Hr (bytesR_any (c := A.yc) (hid rfl) (by have := HOK.out.len; omega) (HA.out.r.yr.ext HB.out)) hF hN)
          clear hF hN
          go_wp2_with fail
          (with_reducible refine C.out.mono ?_)
          rintro e w6 ⟨a6, c6, rfl, hr6, hb6, -⟩
          have HO6 := hid (HOWN.out.ext hb6)
          have HR6 := hid hr6
          go_wp2_with (at_builtin; refine wpList_appendB HO6.out HR6.out HNF (by omega) (Nat.le_trans HB.out.size hb6.size) rfl rfl rfl rfl ?_; intro v9 w9 hown9 hg9 hat9)
          go_roundw
          case rel => exact ⟨k + 1, by omega, by go_num, by rw [HSP.out, ← List.append_assoc, HXF.out, HF.out]; exact hown9, below_of_grown (HB.out.trans (hb6.mono HB.out.size)) hg9 HO6.out (Nat.le_trans HB.out.size hb6.size) (Nat.le_refl _)⟩
          case measure => simp [intOf]; omega
    · have t1 : decide ((k : Int) < (n : Int)) = false := by simpa using hlt
      have t1' : decide (k < n) = false := by simpa using hlt
      have hall : l.take k = l := List.take_of_length_le (by rw [HNL.out]; omega)
      rw [hall] at hown
      have hszn := HN.out
      have HO := hid hown
      have HB := hid hb
      clear hown hb
      go_wp2
      go_ret
      exact ⟨_, rfl, by
        have := HO.out.mono HB1.out.size
        unfold msgF
        rw [HLF.out]; exact this, HB1.out.trans (HB.out.mono HB1.out.size)⟩
end Go.Proofs.Ytbpfhclcjedkcaa


