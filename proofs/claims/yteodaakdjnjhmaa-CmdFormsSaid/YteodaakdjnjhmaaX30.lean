import Derived.Test.YteodaakdjnjhmaaX29
import Derived.Test.YteodaakdjnjhmaaXO
namespace Go.Proofs.Yteodaakdjnjhmaa
open Go.RowKit

/-! ### CmdApart -/
theorem cmdF_pos {A : CmdD} : 0 < (cmdF A).length := by
  unfold cmdF
  rw [List.length_append]
  have : 0 < (short A.kind.toNat).length := by
    by_cases h : A.kind.toNat < 128
    · rw [short_lt h]; simp
    · rw [short_ge h]; simp
  omega
theorem sameC_self (a : CmdD) : sameC a a = true := by
  unfold sameC
  simp [sameB_refl]
theorem cmdSameR_is {A B : CmdD} {da am al ad db bm bl bd : Option Addr} {dc cm cl cd ec em el ed : Nat} {w : World} {r : Bool} (h : Hid (sameC A B = r)) (hA : CmdR w da am al ad A) (hB : CmdR w db bm bl bd B) :
   Calls Try.prog 24 #[.agg (cmdL da am al ad dc cm cl cd A), .agg (cmdL db bm bl bd ec em el ed B)] w fun e w' => e = .returned (.bool r) ∧ Below w.heap.size w w' := by
  have := cmdSameR_any (dc := dc) (cm := cm) (cl := cl) (cd := cd) (ec := ec) (em := em) (el := el) (ed := ed) hA hB
  rw [h.out] at this; exact this
/-- a command as the row brings it -/
structure CmdIn (w : World) (da am al ad : Option Addr) (A : CmdD) : Prop where
  dr : ByteRow w da A.data
  db : ∀ b ∈ A.data, b < 256
  v : ViewR w am al ad A.v
  wf : WfView A.v
  fr : okP A.fr
  num : A.num < 18446744073709551616
  vw : A.vw < 18446744073709551616
theorem CmdIn.ext {w w' : World} {da am al ad : Option Addr} {A : CmdD} (h : CmdIn w da am al ad A) (hb : Below w.heap.size w w') : CmdIn w' da am al ad A := ⟨h.dr.ext hb, h.db, h.v.ext hb, h.wf, h.fr, h.num, h.vw⟩
theorem CmdIn.r {w : World} {da am al ad : Option Addr} {A : CmdD} (h : CmdIn w da am al ad A) (hg : greatC A = false) : CmdR w da am al ad A := ⟨h.dr, by have := (greatC_no hg).1; omega, h.db, h.v⟩
theorem CmdIn.wfC {w : World} {da am al ad : Option Addr} {A : CmdD} (h : CmdIn w da am al ad A) : CmdWf A := ⟨h.fr, h.wf.ms⟩
theorem CmdIn.laid {w : World} {da am al ad : Option Addr} {A : CmdD} (h : CmdIn w da am al ad A) : refCheckB A.v = true → Laid A.v := fun hc => laid_of_check h.wf.ms ((check_eq A.v h.wf.ms).trans hc)
theorem apart_take {w : World} {da am al ad db bm bl bd : Option Addr} {A B : CmdD} (hA : CmdIn w da am al ad A) (hB : CmdIn w db bm bl bd B) (ca : cmdChk A = 0) (cb : cmdChk B = 0) (hs : sameC A B = false) (hl : (cmdF A).length ≤ (cmdF B).length) : cmdF A ≠ (cmdF B).take (cmdF A).length := by
  intro e
  have := cmd_apart (r := (cmdF B).drop (cmdF A).length) hA.wfC hB.wfC ca cb hA.laid hB.laid (by
    have := List.take_append_drop (cmdF A).length (cmdF B)
    rw [← e] at this; exact this.symm)
  subst this
  rw [sameC_self] at hs; cases hs
theorem cmdF_small {w : World} {da am al ad : Option Addr} {A : CmdD} (h : CmdIn w da am al ad A) (hc : cmdChk A = 0) : (cmdF A).length ≤ 300000 := by
  rcases cmdChk_kinds hc with hk | ⟨hk, hnum, hvw, hdl⟩ | ⟨hk, hrc⟩
  · rw [cmdF_1 hk, short_lt (by decide)]; simp
  · obtain ⟨x, y, hx, hy, hx2, hy2⟩ := nat_pid (x := A.fr.1) (y := A.fr.2) h.fr
    rw [cmdF_2 (x := x) (y := y) hk (by rw [← hx, ← hy])]
    have h1 := short_len10 (n := x) (by omega)
    have h2 := short_len10 (n := y) (by omega)
    have h3 := short_len10 (n := A.num) (by omega)
    have h4 := short_len10 (n := A.vw) (by omega)
    have h5 := short_len10 (n := A.data.length) (by omega)
    have h6 := short_len10 (n := 2) (by decide)
    simp only [List.length_append]; omega
  · rw [cmdF_3 hk]
    have hL := h.laid hrc
    have h1 := short_len10 (n := 3) (by decide)
    have h2 := viewF_small hL
    rw [List.length_append]; omega

set_option maxRecDepth 100000 in
set_option maxHeartbeats 12800000 in
theorem cmdApart_law {A B : CmdD} {da am al ad db bm bl bd : Option Addr} {dc cm cl cd ec em el ed : Nat} {w : World} (hA : CmdIn w da am al ad A) (hB : CmdIn w db bm bl bd B) :
    Calls Try.prog 4 #[.agg (cmdL da am al ad dc cm cl cd A), .agg (cmdL db bm bl bd ec em el ed B)] w fun e w' => e = .returned (.bool true) ∧ Below w.heap.size w w' := by
  have hl : ∀ (x : CmdD) (da am al ad : Option Addr) (dc cm cl cd : Nat), cmdL da am al ad dc cm cl cd x = #[.int .i64 x.kind, .int .u16 x.fr.1, .int .u32 x.fr.2, .int .u64 x.num, .int .u64 x.vw, .slice da x.data.length dc, .int .u64 x.v.id, .slice am x.v.ms.length cm, .slice al x.v.ls.length cl, .slice ad x.v.ds.length cd] := fun _ _ _ _ _ _ _ _ _ => rfl
  obtain ⟨W2, hW2⟩ : ∃ W2, ((w.alloc (.cells (cmdL da am al ad dc cm cl cd A) 42)).alloc (.cells (cmdL db bm bl bd ec em el ed B) 42)) = W2 := ⟨_, rfl⟩
  have hB2 : Below w.heap.size w W2 := by rw [← hW2]; exact ((Below.refl _ _).alloc (Nat.le_refl _) _).alloc (by simp) _
  have xA : CmdBox W2 w.heap.size A da am al ad dc cm cl cd := by rw [← hW2]; exact (CmdBox.made (c := A) w).ext ((Below.refl _ _).alloc (Nat.le_refl _) _) (by simp)
  have xB : CmdBox W2 (w.heap.size + 1) B db bm bl bd ec em el ed := by
    rw [← hW2]
    have := CmdBox.made (c := B) (da := db) (am := bm) (al := bl) (ad := bd) (dc := ec) (cm := em) (cl := el) (cd := ed) (w.alloc (.cells (cmdL da am al ad dc cm cl cd A) 42))
    simpa using this
  have hA2 := hA.ext hB2
  have hB22 := hB.ext hB2
  have XA : Hid (∀ W, Below W2.heap.size W2 W → CmdBox W w.heap.size A da am al ad dc cm cl cd) := hid fun W h => xA.ext h xA.lt
  have XB : Hid (∀ W, Below W2.heap.size W2 W → CmdBox W (w.heap.size + 1) B db bm bl bd ec em el ed) := hid fun W h => xB.ext h xB.lt
  have HB2 := hid hB2
  have HA2 := hid hA2
  have HB22 := hid hB22
  obtain ⟨ga, hga⟩ : ∃ r, greatC A = r := ⟨_, rfl⟩
  obtain ⟨gb, hgb⟩ : ∃ r, greatC B = r := ⟨_, rfl⟩
  have GA : Hid (∀ W, Below W2.heap.size W2 W → Calls Try.prog 22 #[.agg (cmdL da am al ad dc cm cl cd A)] W fun e w' => e = .returned (.bool ga) ∧ Below W2.heap.size W2 w') := hid fun W h => relB h (cmdGreat_is (hid hga) (hA2.v.ext h))
  have GB : Hid (∀ W, Below W2.heap.size W2 W → Calls Try.prog 22 #[.agg (cmdL db bm bl bd ec em el ed B)] W fun e w' => e = .returned (.bool gb) ∧ Below W2.heap.size W2 w') := hid fun W h => relB h (cmdGreat_is (hid hgb) (hB22.v.ext h))
  have AW : Hid (∀ W, Below W2.heap.size W2 W → Calls Try.prog 25 #[] W fun e w' => e = .returned (.bool true) ∧ Below W2.heap.size W2 w') := hid fun W h => relB h (awakeC_any W)
  obtain ⟨ca, hca⟩ : ∃ r, (cmdChk A : Int) = r := ⟨_, rfl⟩
  obtain ⟨cb, hcb⟩ : ∃ r, (cmdChk B : Int) = r := ⟨_, rfl⟩
  obtain ⟨sm, hsm⟩ : ∃ r, sameC A B = r := ⟨_, rfl⟩
  have CA : Hid (greatC A = false → ∀ W, Below W2.heap.size W2 W → Calls Try.prog 23 #[.agg (cmdL da am al ad dc cm cl cd A)] W fun e w' => e = .returned (.int .i64 ca) ∧ Below W2.heap.size W2 w') := hid fun g W h => relB h (cmdCheck_is (hid hca) ((hA2.ext h).r g) (by have := (greatC_no g).2; omega) hA2.wf.ms hA2.fr)
  have CB : Hid (greatC B = false → ∀ W, Below W2.heap.size W2 W → Calls Try.prog 23 #[.agg (cmdL db bm bl bd ec em el ed B)] W fun e w' => e = .returned (.int .i64 cb) ∧ Below W2.heap.size W2 w') := hid fun g W h => relB h (cmdCheck_is (hid hcb) ((hB22.ext h).r g) (by have := (greatC_no g).2; omega) hB22.wf.ms hB22.fr)
  have CS : Hid (greatC A = false → greatC B = false → ∀ W, Below W2.heap.size W2 W → Calls Try.prog 24 #[.agg (cmdL da am al ad dc cm cl cd A), .agg (cmdL db bm bl bd ec em el ed B)] W fun e w' => e = .returned (.bool sm) ∧ Below W2.heap.size W2 w') := hid fun g g2 W h => relB h (cmdSameR_is (hid hsm) ((hA2.ext h).r g) ((hB22.ext h).r g2))
  have H2 := Below.refl W2.heap.size W2
  obtain ⟨a0, a1, a2, a3, a4, a5, a6, a7, a8, a9⟩ := id xA
  obtain ⟨b0, b1, b2, b3, b4, b5, b6, b7, b8, b9⟩ := id xB
  have HGA := hid hga
  have HGB := hid hgb
  have HCA := hid hca
  have HCB := hid hcb
  have HSM := hid hsm
  have HW2 := hid hW2
  clear hB2 xA xB hA2 hB22 hga hgb hca hcb hsm
  have fA : ∀ W, Below W2.heap.size W2 W → CmdBox W w.heap.size A da am al ad dc cm cl cd ∧ CmdBox W (w.heap.size + 1) B db bm bl bd ec em el ed := fun W h => ⟨XA.out W h, XB.out W h⟩
  have FA := hid fA
  clear fA
  simp only [hl] at GA GB CA CB CS hW2 ⊢
  cases ga
  case true =>
    go_enter Try.func4, Try.ntmps4
    go_wp2_with (first
      | (go_at_call 22; (with_reducible refine (GA.out _ H2).mono ?_); rintro e w3 ⟨rfl, hb3⟩; clear a0 a1 a2 a3 a4 a5 a6 a7 a8 a9 b0 b1 b2 b3 b4 b5 b6 b7 b8 b9; obtain ⟨⟨a0, a1, a2, a3, a4, a5, a6, a7, a8, a9⟩, ⟨b0, b1, b2, b3, b4, b5, b6, b7, b8, b9⟩⟩ := FA.out _ hb3)
      | (go_at_call 25; (with_reducible refine (AW.out _ hb3).mono ?_); rintro e w9 ⟨rfl, hb9⟩))
    go_ret
    exact ⟨rfl, HB2.out.trans (hb9.mono HB2.out.size)⟩
  cases gb
  case true =>
    go_enter Try.func4, Try.ntmps4
    go_wp2_with (first
      | (go_at_call 22; (with_reducible refine (GA.out _ H2).mono ?_); rintro e w3 ⟨rfl, hb3⟩; clear a0 a1 a2 a3 a4 a5 a6 a7 a8 a9 b0 b1 b2 b3 b4 b5 b6 b7 b8 b9; obtain ⟨⟨a0, a1, a2, a3, a4, a5, a6, a7, a8, a9⟩, ⟨b0, b1, b2, b3, b4, b5, b6, b7, b8, b9⟩⟩ := FA.out _ hb3)
      | (go_at_call 22; (with_reducible refine (GB.out _ hb3).mono ?_); rintro e w4 ⟨rfl, hb4⟩; clear a0 a1 a2 a3 a4 a5 a6 a7 a8 a9 b0 b1 b2 b3 b4 b5 b6 b7 b8 b9; obtain ⟨⟨a0, a1, a2, a3, a4, a5, a6, a7, a8, a9⟩, ⟨b0, b1, b2, b3, b4, b5, b6, b7, b8, b9⟩⟩ := FA.out _ hb4)
      | (go_at_call 25; (with_reducible refine (AW.out _ hb4).mono ?_); rintro e w9 ⟨rfl, hb9⟩))
    go_ret
    exact ⟨rfl, HB2.out.trans (hb9.mono HB2.out.size)⟩
  by_cases h5 : ca = 0
  case neg =>
    have t5 : (ca != 0) = true := by simpa using h5
    clear h5
    go_enter Try.func4, Try.ntmps4
    go_wp2_with (first
      | (go_at_call 22; (with_reducible refine (GA.out _ H2).mono ?_); rintro e w3 ⟨rfl, hb3⟩; clear a0 a1 a2 a3 a4 a5 a6 a7 a8 a9 b0 b1 b2 b3 b4 b5 b6 b7 b8 b9; obtain ⟨⟨a0, a1, a2, a3, a4, a5, a6, a7, a8, a9⟩, ⟨b0, b1, b2, b3, b4, b5, b6, b7, b8, b9⟩⟩ := FA.out _ hb3)
      | (go_at_call 22; (with_reducible refine (GB.out _ hb3).mono ?_); rintro e w4 ⟨rfl, hb4⟩; clear a0 a1 a2 a3 a4 a5 a6 a7 a8 a9 b0 b1 b2 b3 b4 b5 b6 b7 b8 b9; obtain ⟨⟨a0, a1, a2, a3, a4, a5, a6, a7, a8, a9⟩, ⟨b0, b1, b2, b3, b4, b5, b6, b7, b8, b9⟩⟩ := FA.out _ hb4)
      | (go_at_call 23; (with_reducible refine (CA.out HGA.out _ hb4).mono ?_); rintro e w5 ⟨rfl, hb5⟩; clear a0 a1 a2 a3 a4 a5 a6 a7 a8 a9 b0 b1 b2 b3 b4 b5 b6 b7 b8 b9; obtain ⟨⟨a0, a1, a2, a3, a4, a5, a6, a7, a8, a9⟩, ⟨b0, b1, b2, b3, b4, b5, b6, b7, b8, b9⟩⟩ := FA.out _ hb5)
      | (go_at_call 25; (with_reducible refine (AW.out _ hb5).mono ?_); rintro e w9 ⟨rfl, hb9⟩))
    go_ret
    exact ⟨rfl, HB2.out.trans (hb9.mono HB2.out.size)⟩
  by_cases h6 : cb = 0
  case neg =>
    have t5 : (ca != 0) = false := by simpa using h5
    have t6 : (cb != 0) = true := by simpa using h6
    clear h5 h6
    go_enter Try.func4, Try.ntmps4
    go_wp2_with (first
      | (go_at_call 22; (with_reducible refine (GA.out _ H2).mono ?_); rintro e w3 ⟨rfl, hb3⟩; clear a0 a1 a2 a3 a4 a5 a6 a7 a8 a9 b0 b1 b2 b3 b4 b5 b6 b7 b8 b9; obtain ⟨⟨a0, a1, a2, a3, a4, a5, a6, a7, a8, a9⟩, ⟨b0, b1, b2, b3, b4, b5, b6, b7, b8, b9⟩⟩ := FA.out _ hb3)
      | (go_at_call 22; (with_reducible refine (GB.out _ hb3).mono ?_); rintro e w4 ⟨rfl, hb4⟩; clear a0 a1 a2 a3 a4 a5 a6 a7 a8 a9 b0 b1 b2 b3 b4 b5 b6 b7 b8 b9; obtain ⟨⟨a0, a1, a2, a3, a4, a5, a6, a7, a8, a9⟩, ⟨b0, b1, b2, b3, b4, b5, b6, b7, b8, b9⟩⟩ := FA.out _ hb4)
      | (go_at_call 23; (with_reducible refine (CA.out HGA.out _ hb4).mono ?_); rintro e w5 ⟨rfl, hb5⟩; clear a0 a1 a2 a3 a4 a5 a6 a7 a8 a9 b0 b1 b2 b3 b4 b5 b6 b7 b8 b9; obtain ⟨⟨a0, a1, a2, a3, a4, a5, a6, a7, a8, a9⟩, ⟨b0, b1, b2, b3, b4, b5, b6, b7, b8, b9⟩⟩ := FA.out _ hb5)
      | (go_at_call 23; (with_reducible refine (CB.out HGB.out _ hb5).mono ?_); rintro e w6 ⟨rfl, hb6⟩; clear a0 a1 a2 a3 a4 a5 a6 a7 a8 a9 b0 b1 b2 b3 b4 b5 b6 b7 b8 b9; obtain ⟨⟨a0, a1, a2, a3, a4, a5, a6, a7, a8, a9⟩, ⟨b0, b1, b2, b3, b4, b5, b6, b7, b8, b9⟩⟩ := FA.out _ hb6)
      | (go_at_call 25; (with_reducible refine (AW.out _ hb6).mono ?_); rintro e w9 ⟨rfl, hb9⟩))
    go_ret
    exact ⟨rfl, HB2.out.trans (hb9.mono HB2.out.size)⟩
  have t5 : (ca != 0) = false := by simpa using h5
  have t6 : (cb != 0) = false := by simpa using h6
  have H5 : Hid (cmdChk A = 0) := hid (by have := HCA.out; omega)
  have H6 : Hid (cmdChk B = 0) := hid (by have := HCB.out; omega)
  clear h5 h6
  cases sm
  case true =>
    go_enter Try.func4, Try.ntmps4
    go_wp2_with (first
      | (go_at_call 22; (with_reducible refine (GA.out _ H2).mono ?_); rintro e w3 ⟨rfl, hb3⟩; clear a0 a1 a2 a3 a4 a5 a6 a7 a8 a9 b0 b1 b2 b3 b4 b5 b6 b7 b8 b9; obtain ⟨⟨a0, a1, a2, a3, a4, a5, a6, a7, a8, a9⟩, ⟨b0, b1, b2, b3, b4, b5, b6, b7, b8, b9⟩⟩ := FA.out _ hb3)
      | (go_at_call 22; (with_reducible refine (GB.out _ hb3).mono ?_); rintro e w4 ⟨rfl, hb4⟩; clear a0 a1 a2 a3 a4 a5 a6 a7 a8 a9 b0 b1 b2 b3 b4 b5 b6 b7 b8 b9; obtain ⟨⟨a0, a1, a2, a3, a4, a5, a6, a7, a8, a9⟩, ⟨b0, b1, b2, b3, b4, b5, b6, b7, b8, b9⟩⟩ := FA.out _ hb4)
      | (go_at_call 23; (with_reducible refine (CA.out HGA.out _ hb4).mono ?_); rintro e w5 ⟨rfl, hb5⟩; clear a0 a1 a2 a3 a4 a5 a6 a7 a8 a9 b0 b1 b2 b3 b4 b5 b6 b7 b8 b9; obtain ⟨⟨a0, a1, a2, a3, a4, a5, a6, a7, a8, a9⟩, ⟨b0, b1, b2, b3, b4, b5, b6, b7, b8, b9⟩⟩ := FA.out _ hb5)
      | (go_at_call 23; (with_reducible refine (CB.out HGB.out _ hb5).mono ?_); rintro e w6 ⟨rfl, hb6⟩; clear a0 a1 a2 a3 a4 a5 a6 a7 a8 a9 b0 b1 b2 b3 b4 b5 b6 b7 b8 b9; obtain ⟨⟨a0, a1, a2, a3, a4, a5, a6, a7, a8, a9⟩, ⟨b0, b1, b2, b3, b4, b5, b6, b7, b8, b9⟩⟩ := FA.out _ hb6)
      | (go_at_call 24; (with_reducible refine (CS.out HGA.out HGB.out _ hb6).mono ?_); rintro e w7 ⟨rfl, hb7⟩; clear a0 a1 a2 a3 a4 a5 a6 a7 a8 a9 b0 b1 b2 b3 b4 b5 b6 b7 b8 b9; obtain ⟨⟨a0, a1, a2, a3, a4, a5, a6, a7, a8, a9⟩, ⟨b0, b1, b2, b3, b4, b5, b6, b7, b8, b9⟩⟩ := FA.out _ hb7)
      | (go_at_call 25; (with_reducible refine (AW.out _ hb7).mono ?_); rintro e w9 ⟨rfl, hb9⟩))
    go_ret
    exact ⟨rfl, HB2.out.trans (hb9.mono HB2.out.size)⟩
  case false =>
    go_enter Try.func4, Try.ntmps4
    go_wp2_with (first
      | (go_at_call 22; (with_reducible refine (GA.out _ H2).mono ?_); rintro e w3 ⟨rfl, hb3⟩; clear a0 a1 a2 a3 a4 a5 a6 a7 a8 a9 b0 b1 b2 b3 b4 b5 b6 b7 b8 b9; obtain ⟨⟨a0, a1, a2, a3, a4, a5, a6, a7, a8, a9⟩, ⟨b0, b1, b2, b3, b4, b5, b6, b7, b8, b9⟩⟩ := FA.out _ hb3)
      | (go_at_call 22; (with_reducible refine (GB.out _ hb3).mono ?_); rintro e w4 ⟨rfl, hb4⟩; clear a0 a1 a2 a3 a4 a5 a6 a7 a8 a9 b0 b1 b2 b3 b4 b5 b6 b7 b8 b9; obtain ⟨⟨a0, a1, a2, a3, a4, a5, a6, a7, a8, a9⟩, ⟨b0, b1, b2, b3, b4, b5, b6, b7, b8, b9⟩⟩ := FA.out _ hb4)
      | (go_at_call 23; (with_reducible refine (CA.out HGA.out _ hb4).mono ?_); rintro e w5 ⟨rfl, hb5⟩; clear a0 a1 a2 a3 a4 a5 a6 a7 a8 a9 b0 b1 b2 b3 b4 b5 b6 b7 b8 b9; obtain ⟨⟨a0, a1, a2, a3, a4, a5, a6, a7, a8, a9⟩, ⟨b0, b1, b2, b3, b4, b5, b6, b7, b8, b9⟩⟩ := FA.out _ hb5)
      | (go_at_call 23; (with_reducible refine (CB.out HGB.out _ hb5).mono ?_); rintro e w6 ⟨rfl, hb6⟩; clear a0 a1 a2 a3 a4 a5 a6 a7 a8 a9 b0 b1 b2 b3 b4 b5 b6 b7 b8 b9; obtain ⟨⟨a0, a1, a2, a3, a4, a5, a6, a7, a8, a9⟩, ⟨b0, b1, b2, b3, b4, b5, b6, b7, b8, b9⟩⟩ := FA.out _ hb6))
    (with_reducible refine (CS.out HGA.out HGB.out _ hb6).mono ?_)
    rintro e w7 ⟨rfl, hb7⟩
    clear a0 a1 a2 a3 a4 a5 a6 a7 a8 a9 b0 b1 b2 b3 b4 b5 b6 b7 b8 b9
    obtain ⟨w8, hw8⟩ : ∃ w8, (w7.alloc (.cells #[.slice none 0 0] 48)).alloc (.cells #[.slice none 0 0] 48) = w8 := ⟨_, rfl⟩
    have hb78 : Below w7.heap.size w7 w8 := by rw [← hw8]; exact ((Below.refl _ _).alloc (Nat.le_refl _) _).alloc (by simp) _
    have hb28 : Below W2.heap.size W2 w8 := hb7.trans (hb78.mono hb7.size)
    have hs1 : WrIs w8 w7.heap.size (.slice none 0 0) [] := by rw [← hw8]; exact (WrIs.made w7 _).ext ((Below.refl _ _).alloc (Nat.le_refl _) _)
    have hs2 : WrIs w8 (w7.heap.size + 1) (.slice none 0 0) [] := by
      rw [← hw8]
      have := WrIs.made (w7.alloc (.cells #[.slice none 0 0] 48)) 48
      simpa using this
    have hz8 : w8.heap.size = w7.heap.size + 1 + 1 := by rw [← hw8]; simp
    have HZ7 := hid hb7.size
    have hA7 := HA2.out.ext hb7
    have hB7 := HB22.out.ext hb7
    have hbx := FA.out _ hb28
    have hbl : w.heap.size + 1 < w7.heap.size := by
      have h1 := hb7.size
      have h2 := (XB.out _ H2).lt
      omega
    obtain ⟨a0, a1, a2, a3, a4, a5, a6, a7, a8, a9⟩ := hbx.1
    obtain ⟨b0, b1, b2, b3, b4, b5, b6, b7, b8, b9⟩ := hbx.2
    have hgA := greatC_no HGA.out
    have hgB := greatC_no HGB.out
    have P1 := cmdPut_any (dc := dc) (cm := cm) (cl := cl) (cd := cd) hs1 (by simp) (hA7.dr.ext hb78) hA7.db hgA.1 (hA7.dr.far (Nat.le_refl _)) hA7.v hb78 (Nat.le_refl _) hA7.fr hA7.wf.ms hA7.wf.id (by omega) H5.out
    rw [hl, List.nil_append] at P1
    have HP1 := hid P1
    clear P1
    have KEEP := hid (And.intro hA7 (And.intro hB7 (And.intro hb78 (And.intro hs2 (And.intro hbx (And.intro hbl (And.intro hz8 (And.intro hb28 (And.intro hgA hgB)))))))))
    clear hA7 hB7 hb78 hs1 hs2 hbx hbl hz8 hb28 hb7 hgA hgB hb6 hb5 hb4 hb3 GA GB CA CB CS hW2
    go_wp2_with fail
    refine HP1.out.mono ?_
    rintro e w9 ⟨rfl, v9, hw9⟩
    clear a0 a1 a2 a3 a4 a5 a6 a7 a8 a9 b0 b1 b2 b3 b4 b5 b6 b7 b8 b9
    obtain ⟨hA7, hB7, hb78, hs2, hbx, hbl, hz8, hb28, hgA, hgB⟩ := KEEP.out
    have hbx9 := And.intro (hbx.1.mutT hw9.mt (by omega)) (hbx.2.mutT hw9.mt (by omega))
    obtain ⟨a0, a1, a2, a3, a4, a5, a6, a7, a8, a9⟩ := hbx9.1
    obtain ⟨b0, b1, b2, b3, b4, b5, b6, b7, b8, b9⟩ := hbx9.2
    have hs29 := hs2.nilT hw9.mt (by omega)
    have hb79 := below_mut hb78 hw9.mt (Nat.le_refl _)
    have P2 := cmdPut_any (dc := ec) (cm := em) (cl := el) (cd := ed) hs29 (by simp) (hB7.dr.ext hb79) hB7.db hgB.1 (hB7.dr.far (by omega)) hB7.v hb79 (by omega) hB7.fr hB7.wf.ms hB7.wf.id (by omega) H6.out
    rw [hl, List.nil_append] at P2
    have HP2 := hid P2
    clear P2 hw8
    have HW9 := hid hw9
    have HB79 := hid hb79
    clear hA7 hB7 hb78 hs2 hbx hbl hz8 hb28 hgA hgB hbx9 hs29 hb79 hw9 HP1
    go_wp2_with fail
    refine HP2.out.mono ?_
    rintro e w10 ⟨rfl, v10, hw10⟩
    clear a0 a1 a2 a3 a4 a5 a6 a7 a8 a9 b0 b1 b2 b3 b4 b5 b6 b7 b8 b9
    obtain ⟨hA7, hB7, hb78, hs2, hbx, hbl, hz8, hb28, hgA, hgB⟩ := KEEP.out
    have hsa := HW9.out.wr.mutT hw10.mt (by omega) HW9.out.own (by omega) (by omega)
    have hfa := cmdF_small hA7 H5.out
    have hfb := cmdF_small hB7 H6.out
    have hb710 : Below w7.heap.size w7 w10 := below_mut HB79.out hw10.mt (by omega)
    have D1 := hid (wDone_any hsa (by omega))
    have HW10 := hid hw10
    have hb210 : Below W2.heap.size W2 w10 := by
      have hz7 := HZ7.out
      have h8 := (HW9.out.mt.below (B := W2.heap.size) (by have := hb28.size; omega) (fun k e => by have := hb28.size; have := HW9.out.mt.size; omega))
      have h9 := (hw10.mt.below (B := W2.heap.size) (by have := hb28.size; have := HW9.out.mt.size; omega) (fun k e => by have := hb28.size; omega))
      exact hb28.trans (h8.trans h9)
    have HB210 := hid hb210
    have HAP := hid (apart_take hA7 hB7 H5.out H6.out HSM.out)
    clear hA7 hB7 hb78 hs2 hbx hbl hz8 hb28 hgA hgB hsa hb710 hw10 hb210 HP2
    go_wp2_with fail
    refine D1.out.mono ?_
    rintro e w11 ⟨v11, rfl, hown11, hb11⟩
    have D2 := hid (wDone_any (HW10.out.wr.ext hb11) (by omega))
    obtain ⟨ax, cx, rfl, hrx, -⟩ := hown11.row
    clear D1 hown11
    go_wp2_with fail
    refine D2.out.mono ?_
    rintro e w12 ⟨v12, rfl, hown12, hb12⟩
    obtain ⟨ay, cy, he, hry, -⟩ := hown12.row
    have hcap := hown12.cap _ _ _ he
    subst he
    have hrx2 := hrx.ext hb12
    have HB12 := hid (HB210.out.trans ((hb11.trans (hb12.mono hb11.size)).mono HB210.out.size))
    have hpa : 0 < (cmdF A).length := cmdF_pos
    have hpb : 0 < (cmdF B).length := cmdF_pos
    obtain ⟨X, hX⟩ : ∃ X, cmdF A = X := ⟨_, rfl⟩
    obtain ⟨Y, hY⟩ : ∃ Y, cmdF B = Y := ⟨_, rfl⟩
    rw [hX] at HAP hpa hfa hrx2 ⊢
    rw [hY] at HAP hpb hfb hry hcap ⊢
    obtain ⟨nx, hnx⟩ : ∃ n, X.length = n := ⟨_, rfl⟩
    obtain ⟨ny, hny⟩ : ∃ n, Y.length = n := ⟨_, rfl⟩
    rw [hnx] at HAP hpa hfa ⊢
    rw [hny] at HAP hpb hfb hcap ⊢
    clear hX hY hown12 hrx D2 HW10 HW9 HB210 HB79 KEEP hb11 hb12
    have t1 : decide ((nx : Int) > 0) = true := by simp <;> omega
    have t1' : decide ((0 : Int) < (nx : Int)) = true := by simp <;> omega
    have t1'' : decide (0 < nx) = true := by simp <;> omega
    have t2 : decide ((ny : Int) > 0) = true := by simp <;> omega
    have t2' : decide ((0 : Int) < (ny : Int)) = true := by simp <;> omega
    have t2'' : decide (0 < ny) = true := by simp <;> omega
    have HNX := hid hnx
    have HNY := hid hny
    by_cases hle : nx ≤ ny
    · have t3 : decide ((nx : Int) ≤ (ny : Int)) = true := by simp <;> omega
      have t3' : decide (nx ≤ ny) = true := by simp <;> omega
      have e0 : (if cy = 0 then ay else ay.map (·.add (0 * 1))) = ay := by
        rw [if_neg (by omega)]
        cases ay with
        | none => rfl
        | some q => simp [Addr.add]
      have hup := fun W => run_uptoB (a := ay) (n := ny) (c := cy) (k := nx) (by omega) W
      simp only [e0, Nat.sub_zero] at hup
      have hne := decide_eq_false (HAP.out hle)
      have htl : (Y.take nx).length = nx := (List.length_take ..).trans (by rw [hny]; exact Nat.min_eq_left hle)
      have hry2 := hry.upto nx
      have hnx3 : nx ≤ 70368744177664 := by omega
      have S : Hid (Calls Try.prog 28 #[.slice ax nx cx, .slice ay nx cy] w12 fun e w' => e = .returned (.bool false) ∧ Below w12.heap.size w12 w') := hid (sameB_is (hid hne) HNX (hid htl) hnx3 hnx3 hrx2 hry2)
      clear hne htl hry2 hnx3
      clear hnx hny e0 hle
      go_wp2_with fail
      (with_reducible refine S.out.mono ?_)
      rintro e w13 ⟨rfl, hb13⟩
      have hb213 := HB12.out.trans (hb13.mono HB12.out.size)
      have AW2 := hid (AW.out _ hb213)
      clear AW
      go_wp2_with fail
      refine AW2.out.mono ?_
      rintro e w14 ⟨rfl, hb14⟩
      go_wp2
      go_ret
      exact ⟨rfl, HB2.out.trans (hb14.mono HB2.out.size)⟩
    · have t3 : decide ((nx : Int) ≤ (ny : Int)) = false := by simp <;> omega
      have t3' : decide (nx ≤ ny) = false := by simp <;> omega
      have hb212 := HB12.out
      clear hnx hny hle
      have AW2 := hid (AW.out _ hb212)
      clear AW
      go_wp2_with fail
      refine AW2.out.mono ?_
      rintro e w14 ⟨rfl, hb14⟩
      go_wp2
      go_ret
      exact ⟨rfl, HB2.out.trans (hb14.mono HB2.out.size)⟩
end Go.Proofs.Yteodaakdjnjhmaa
