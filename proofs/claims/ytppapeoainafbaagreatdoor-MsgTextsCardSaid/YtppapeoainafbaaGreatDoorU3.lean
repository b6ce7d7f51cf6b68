/- Parts of the proof: U3. -/
import Derived.Test.YtppapeoainafbaaGreatDoorGMsgTexts18
namespace Go.Proofs.YtppapeoainafbaaGreatDoor
open Go.RowKit
/-! ### msg.Text of a message -/
def TxV (m : MsgD) (j : Nat) (s : Value) : Prop := ∃ X : Str, s = .string ⟨X.toArray⟩ ∧ txtK m j = X
set_option maxRecDepth 100000 in
set_option maxHeartbeats 12800000 in
theorem msgText_any {A : MA} {m : MsgD} {w : World} (hA : MsgE w A m) (ht : TabOk w) :
    Calls Tryz.prog 7 #[.agg (ML A m).toArray] w fun e w' => e = .returned (.string ⟨(msgT m).toArray⟩) ∧ Below w.heap.size w w' := by
  obtain ⟨W1, hW1⟩ : ∃ W1, w.alloc (.cells (ML A m).toArray 37) = W1 := ⟨_, rfl⟩
  have hB1 : Below w.heap.size w W1 := by rw [← hW1]; exact (Below.refl _ _).alloc (Nat.le_refl _) _
  have xA : MsgBox W1 w.heap.size A m := by rw [← hW1]; exact MsgBox.made A m w _ _
  have hA1 := hA.ext hB1
  have CK := hid (msgCheck_any hA1.r hA1.s)
  cases hc : msgChk m
  case false =>
    rw [hc] at CK
    have HR := hid (msgT_no hc)
    have HB1 := hid hB1
    clear hA hA1 hB1 hc ht
    go_enter Tryz.func7, Tryz.ntmps7
    go_wp2_with (first
      | (refine wpList_loadM xA rfl rfl rfl ?_)
      | (go_at_call 23; (with_reducible refine CK.out.mono ?_); rintro e w3 ⟨rfl, hb3⟩; have e1 : chkE false = 1 := rfl; rw [e1]))
    go_ret
    exact ⟨by rw [HR.out]; rfl, HB1.out.trans (hb3.mono HB1.out.size)⟩
  rw [hc] at CK
  have hk := msgChk_ok hc
  have hkd := hk.kd
  obtain ⟨kn, hkn⟩ : ∃ kn : Nat, m.kind = (kn : Int) := ⟨m.kind.toNat, by omega⟩
  have hk14 : kn ≤ 14 := by omega
  have hk1 : 1 ≤ kn := by omega
  have HX1 : Hid (∀ W, Below W1.heap.size W1 W → MsgBox W w.heap.size A m) := hid fun W h => xA.ext h xA.lt
  have HE : Hid (txtK m 10 = msgT m) := hid (txtK_10 hc)
  have HB1 := hid hB1
  have HA := hid hA1
  have HOK := hid hk
  have HKN := hid hkn
  have HLE : Hid (∀ j, j ≤ 10 → (txtK m j).length ≤ 40000) := hid fun j hj => txtK_le hA1 hk hj
  have HT := hid (ht.ext hB1)
  obtain ⟨f, hf⟩ : ∃ f, flN m.kind = f := ⟨_, rfl⟩
  have HF := hid hf
  have FL : Hid (∀ W, Calls Tryz.prog 24 #[.int .i64 kn] W fun e w' => e = .returned (.int .u64 f) ∧ W = w') := hid fun W => by
    have := fields_any m.kind W
    rw [hf, hkn] at this; exact this
  have WD : Hid (∀ W, Calls Tryz.prog 25 #[.int .i64 kn] W fun e w' => e = .returned (.string ⟨(wordK m.kind).toArray⟩) ∧ W = w') := hid fun W => by
    have := words_any m.kind W
    rw [hkn] at this ⊢; exact this
  obtain ⟨r0, hr0⟩ : ∃ r, hb m.kind 0 = r := ⟨_, rfl⟩
  have HR0 := hid hr0
  obtain ⟨r1, hr1⟩ : ∃ r, hb m.kind 1 = r := ⟨_, rfl⟩
  have HR1 := hid hr1
  obtain ⟨r2, hr2⟩ : ∃ r, hb m.kind 2 = r := ⟨_, rfl⟩
  have HR2 := hid hr2
  obtain ⟨r3, hr3⟩ : ∃ r, hb m.kind 3 = r := ⟨_, rfl⟩
  have HR3 := hid hr3
  obtain ⟨r4, hr4⟩ : ∃ r, hb m.kind 4 = r := ⟨_, rfl⟩
  have HR4 := hid hr4
  obtain ⟨r5, hr5⟩ : ∃ r, hb m.kind 5 = r := ⟨_, rfl⟩
  have HR5 := hid hr5
  obtain ⟨r7, hr7⟩ : ∃ r, hb m.kind 7 = r := ⟨_, rfl⟩
  have HR7 := hid hr7
  obtain ⟨r8, hr8⟩ : ∃ r, hb m.kind 8 = r := ⟨_, rfl⟩
  have HR8 := hid hr8
  obtain ⟨r9, hr9⟩ : ∃ r, hb m.kind 9 = r := ⟨_, rfl⟩
  have HR9 := hid hr9
  obtain ⟨hs, hhs⟩ : ∃ r, m.has = r := ⟨_, rfl⟩
  have HHS := hid hhs
  clear hA hA1 hB1 hc hk hkn hkd hf ht hhs hr0 hr1 hr2 hr3 hr4 hr5 hr7 hr8 hr9
  go_enter Tryz.func7, Tryz.ntmps7
  go_wp2_with (first
    | (refine wpList_loadM xA rfl rfl rfl ?_)
    | (go_at_call 23; (with_reducible refine CK.out.mono ?_); rintro e w2 ⟨rfl, hb2⟩; have e1 : chkE true = 0 := rfl; rw [e1]; have a0 := (HX1.out _ hb2).cell (j := 0) (v := .int .i64 m.kind) rfl; rw [HKN.out] at a0; have HBJ := hid hb2; clear hb2 xA CK e1)
    | (go_at_call 24; (with_reducible refine (FL.out _).mono ?_); rintro e wz ⟨rfl, rfl⟩)
    | (go_at_call 25; (with_reducible refine (WD.out _).mono ?_); rintro e wz ⟨rfl, rfl⟩)
    | (go_at_call 26; fail))
  obtain ⟨X, hX⟩ : ∃ X, wordK m.kind = X := ⟨_, rfl⟩
  have HXJ : Hid (txtK m 0 = X) := hid hX
  rw [hX]
  clear hX a0 FL WD
  go_upto_if 17 with (go_at_call 26; (with_reducible refine (mhas0 HF HR0).mono ?_); rintro e wz ⟨rfl, rfl⟩)
  go_cut [4] (fun s wx => TxV m 1 s ∧ Below W1.heap.size W1 wx)
  case first =>
    cases r0
    case false =>
      go_wp2_with fail
      go_meet
      exact ⟨⟨X, rfl, by rw [txtK_no (by unfold onB; rw [if_neg (by decide), if_neg (by decide)]; exact HR0.out)]; exact HXJ.out⟩, HBJ.out⟩
    case true =>
      have hx := HX1.out _ HBJ.out
      have hXl : X.length ≤ 40000 := by rw [← HXJ.out]; exact HLE.out 0 (by decide)
      have hO : onB m 0 = true := by unfold onB; rw [if_neg (by decide), if_neg (by decide)]; exact HR0.out
      have hpl := partT_len HA.out HOK.out hO (by decide)
      have hYE : txtK m 1 = txtK m 0 ++ partT m 0 := txtK_yes hO
      rw [HXJ.out] at hYE
      obtain ⟨x, y, hx1, hy1, hx2, hy2⟩ := nat_pid (x := m.who.1) (y := m.who.2) HA.out.s.who
      have a1 : w2.cell? ⟨w.heap.size, 1, none⟩ = some (.int .u16 m.who.1) := hx.cell rfl
      have a2 : w2.cell? ⟨w.heap.size, 2, none⟩ = some (.int .u32 m.who.2) := hx.cell rfl
      rw [hx1] at a1
      rw [hy1] at a2
      have N := print_any hx2 hy2 w2 (HT.out.ext HBJ.out)
      have hwp : partT m 0 = [32] ++ printP ((x : Int), (y : Int)) := by show whoT m.who = _; unfold whoT; rw [show m.who = ((x : Int), (y : Int)) from Prod.ext hx1 hy1]
      obtain ⟨PP, hPP⟩ : ∃ PP, printP ((x : Int), (y : Int)) = PP := ⟨_, rfl⟩
      rw [hPP] at N hwp
      rw [hwp] at hpl hYE
      have hpl2 : PP.length ≤ 4000 := by
        have h := hpl
        try simp only [List.length_append, List.length_cons, List.length_nil] at h
        omega
      have hYE2 : txtK m 1 = X ++ ([32] ++ PP) := hYE.trans (by first | rfl | simp only [List.append_assoc])
      have b1 := run_cat [32] PP (by first | omega | (simp only [List.length_append, List.length_cons, List.length_nil]; omega) | simp) (by first | omega | (simp only [List.length_append, List.length_cons, List.length_nil]; omega) | simp)
      have b2 := run_cat X ([32] ++ PP) (by first | omega | (simp only [List.length_append, List.length_cons, List.length_nil]; omega) | simp) (by first | omega | (simp only [List.length_append, List.length_cons, List.length_nil]; omega) | simp)
      obtain ⟨T1, hT1⟩ : ∃ T, [32] ++ PP = T := ⟨_, rfl⟩
      rw [hT1] at b1 b2 hYE2
      obtain ⟨T2, hT2⟩ : ∃ T, X ++ T1 = T := ⟨_, rfl⟩
      rw [hT2] at b2 hYE2
      have HYE := hid hYE2
      have HN := hid N
      clear hx hXl hO hpl hpl2 hYE hYE2 N hx1 hy1 hx2 hy2 hPP hwp hT1 hT2
      go_wp2_with fail
      (with_reducible refine HN.out.mono ?_)
      rintro e w9 ⟨rfl, hb9⟩
      have HB9 := hid (HBJ.out.trans (hb9.mono HBJ.out.size))
      clear hb9 HN a1 a2
      go_wp2_with fail
      go_meet
      exact ⟨⟨T2, rfl, HYE.out⟩, HB9.out⟩
  case rest =>
  clear HBJ HXJ X
  obtain ⟨⟨X, rfl, hX⟩, hb⟩ := hcut
  rename World => wc0
  have HXJ := hid hX
  have HBJ := hid hb
  clear hX hb
  go_upto_if 25 with (go_at_call 26; (with_reducible refine (mhas1 HF HR1).mono ?_); rintro e wz ⟨rfl, rfl⟩)
  go_cut [4] (fun s wx => TxV m 2 s ∧ Below W1.heap.size W1 wx)
  case first =>
    cases r1
    case false =>
      go_wp2_with fail
      go_meet
      exact ⟨⟨X, rfl, by rw [txtK_no (by unfold onB; rw [if_neg (by decide), if_neg (by decide)]; exact HR1.out)]; exact HXJ.out⟩, HBJ.out⟩
    case true =>
      have hx := HX1.out _ HBJ.out
      have hXl : X.length ≤ 40000 := by rw [← HXJ.out]; exact HLE.out 1 (by decide)
      have hO : onB m 1 = true := by unfold onB; rw [if_neg (by decide), if_neg (by decide)]; exact HR1.out
      have hpl := partT_len HA.out HOK.out hO (by decide)
      have hYE : txtK m 2 = txtK m 1 ++ partT m 1 := txtK_yes hO
      rw [HXJ.out] at hYE
      have a3 : wc0.cell? ⟨w.heap.size, 3, none⟩ = some (.int .u64 m.vw) := hx.cell rfl
      have hn64 : m.vw < 18446744073709551616 := by have := HOK.out.nums; omega
      have N := numT_any 118 m.vw hn64 wc0 (HT.out.ext HBJ.out)
      have hwp : partT m 1 = numT 118 m.vw := rfl
      obtain ⟨PP, hPP⟩ : ∃ PP, numT 118 m.vw = PP := ⟨_, rfl⟩
      rw [hPP] at N hwp
      rw [hwp] at hpl hYE
      have hpl2 : PP.length ≤ 4000 := by
        have h := hpl
        try simp only [List.length_append, List.length_cons, List.length_nil] at h
        omega
      have hYE2 : txtK m 2 = X ++ PP := hYE.trans (by first | rfl | simp only [List.append_assoc])
      have b1 := run_cat X PP (by first | omega | (simp only [List.length_append, List.length_cons, List.length_nil]; omega) | simp) (by first | omega | (simp only [List.length_append, List.length_cons, List.length_nil]; omega) | simp)
      obtain ⟨T1, hT1⟩ : ∃ T, X ++ PP = T := ⟨_, rfl⟩
      rw [hT1] at b1 hYE2
      have HYE := hid hYE2
      have HN := hid N
      clear hx hXl hO hpl hpl2 hYE hYE2 N hn64 hPP hwp hT1
      go_wp2_with fail
      (with_reducible refine HN.out.mono ?_)
      rintro e w9 ⟨rfl, hb9⟩
      have HB9 := hid (HBJ.out.trans (hb9.mono HBJ.out.size))
      clear hb9 HN a3
      go_wp2_with fail
      go_meet
      exact ⟨⟨T1, rfl, HYE.out⟩, HB9.out⟩
  case rest =>
  clear HBJ HXJ X
  obtain ⟨⟨X, rfl, hX⟩, hb⟩ := hcut
  rename World => wc1
  have HXJ := hid hX
  have HBJ := hid hb
  clear hX hb
  go_upto_if 32 with (go_at_call 26; (with_reducible refine (mhas2 HF HR2).mono ?_); rintro e wz ⟨rfl, rfl⟩)
  go_cut [4] (fun s wx => TxV m 3 s ∧ Below W1.heap.size W1 wx)
  case first =>
    cases r2
    case false =>
      go_wp2_with fail
      go_meet
      exact ⟨⟨X, rfl, by rw [txtK_no (by unfold onB; rw [if_neg (by decide), if_neg (by decide)]; exact HR2.out)]; exact HXJ.out⟩, HBJ.out⟩
    case true =>
      have hx := HX1.out _ HBJ.out
      have hXl : X.length ≤ 40000 := by rw [← HXJ.out]; exact HLE.out 2 (by decide)
      have hO : onB m 2 = true := by unfold onB; rw [if_neg (by decide), if_neg (by decide)]; exact HR2.out
      have hpl := partT_len HA.out HOK.out hO (by decide)
      have hYE : txtK m 3 = txtK m 2 ++ partT m 2 := txtK_yes hO
      rw [HXJ.out] at hYE
      have a4 : wc1.cell? ⟨w.heap.size, 4, none⟩ = some (.int .u64 m.sl) := hx.cell rfl
      have hn64 : m.sl < 18446744073709551616 := by have := HOK.out.nums; omega
      have N := numT_any 115 m.sl hn64 wc1 (HT.out.ext HBJ.out)
      have hwp : partT m 2 = numT 115 m.sl := rfl
      obtain ⟨PP, hPP⟩ : ∃ PP, numT 115 m.sl = PP := ⟨_, rfl⟩
      rw [hPP] at N hwp
      rw [hwp] at hpl hYE
      have hpl2 : PP.length ≤ 4000 := by
        have h := hpl
        try simp only [List.length_append, List.length_cons, List.length_nil] at h
        omega
      have hYE2 : txtK m 3 = X ++ PP := hYE.trans (by first | rfl | simp only [List.append_assoc])
      have b1 := run_cat X PP (by first | omega | (simp only [List.length_append, List.length_cons, List.length_nil]; omega) | simp) (by first | omega | (simp only [List.length_append, List.length_cons, List.length_nil]; omega) | simp)
      obtain ⟨T1, hT1⟩ : ∃ T, X ++ PP = T := ⟨_, rfl⟩
      rw [hT1] at b1 hYE2
      have HYE := hid hYE2
      have HN := hid N
      clear hx hXl hO hpl hpl2 hYE hYE2 N hn64 hPP hwp hT1
      go_wp2_with fail
      (with_reducible refine HN.out.mono ?_)
      rintro e w9 ⟨rfl, hb9⟩
      have HB9 := hid (HBJ.out.trans (hb9.mono HBJ.out.size))
      clear hb9 HN a4
      go_wp2_with fail
      go_meet
      exact ⟨⟨T1, rfl, HYE.out⟩, HB9.out⟩
  case rest =>
  clear HBJ HXJ X
  obtain ⟨⟨X, rfl, hX⟩, hb⟩ := hcut
  rename World => wc2
  have HXJ := hid hX
  have HBJ := hid hb
  clear hX hb
  go_upto_if 39 with (go_at_call 26; (with_reducible refine (mhas3 HF HR3).mono ?_); rintro e wz ⟨rfl, rfl⟩)
  go_cut [4] (fun s wx => TxV m 4 s ∧ Below W1.heap.size W1 wx)
  case first =>
    cases r3
    case false =>
      go_wp2_with fail
      go_meet
      exact ⟨⟨X, rfl, by rw [txtK_no (by unfold onB; rw [if_neg (by decide), if_neg (by decide)]; exact HR3.out)]; exact HXJ.out⟩, HBJ.out⟩
    case true =>
      have hx := HX1.out _ HBJ.out
      have hXl : X.length ≤ 40000 := by rw [← HXJ.out]; exact HLE.out 3 (by decide)
      have hO : onB m 3 = true := by unfold onB; rw [if_neg (by decide), if_neg (by decide)]; exact HR3.out
      have hpl := partT_len HA.out HOK.out hO (by decide)
      have hYE : txtK m 4 = txtK m 3 ++ partT m 3 := txtK_yes hO
      rw [HXJ.out] at hYE
      obtain ⟨x, y, hx1, hy1, hx2, hy2⟩ := nat_pid (x := m.b.2.1) (y := m.b.2.2) HA.out.s.b
      have a7 : wc2.cell? ⟨w.heap.size, 7, none⟩ = some (.int .u32 m.b.1) := hx.cell rfl
      have a8 : wc2.cell? ⟨w.heap.size, 8, none⟩ = some (.int .u16 m.b.2.1) := hx.cell rfl
      have a9 : wc2.cell? ⟨w.heap.size, 9, none⟩ = some (.int .u32 m.b.2.2) := hx.cell rfl
      rw [hx1] at a8
      rw [hy1] at a9
      have N := balT_any 98 m.b.1 x y HA.out.brd hx2 hy2 wc2 (HT.out.ext HBJ.out)
      have hwp : partT m 3 = balT 98 (m.b.1, ((x : Int), (y : Int))) := by show balT 98 m.b = _; rw [show m.b = (m.b.1, ((x : Int), (y : Int))) from Prod.ext rfl (Prod.ext hx1 hy1)]
      obtain ⟨PP, hPP⟩ : ∃ PP, balT 98 (m.b.1, ((x : Int), (y : Int))) = PP := ⟨_, rfl⟩
      rw [hPP] at N hwp
      rw [hwp] at hpl hYE
      have hpl2 : PP.length ≤ 4000 := by
        have h := hpl
        try simp only [List.length_append, List.length_cons, List.length_nil] at h
        omega
      have hYE2 : txtK m 4 = X ++ PP := hYE.trans (by first | rfl | simp only [List.append_assoc])
      have b1 := run_cat X PP (by first | omega | (simp only [List.length_append, List.length_cons, List.length_nil]; omega) | simp) (by first | omega | (simp only [List.length_append, List.length_cons, List.length_nil]; omega) | simp)
      obtain ⟨T1, hT1⟩ : ∃ T, X ++ PP = T := ⟨_, rfl⟩
      rw [hT1] at b1 hYE2
      have HYE := hid hYE2
      have HN := hid N
      clear hx hXl hO hpl hpl2 hYE hYE2 N hx1 hy1 hx2 hy2 hPP hwp hT1
      go_wp2_with fail
      (with_reducible refine HN.out.mono ?_)
      rintro e w9 ⟨rfl, hb9⟩
      have HB9 := hid (HBJ.out.trans (hb9.mono HBJ.out.size))
      clear hb9 HN a7 a8 a9
      go_wp2_with fail
      go_meet
      exact ⟨⟨T1, rfl, HYE.out⟩, HB9.out⟩
  case rest =>
  clear HBJ HXJ X
  obtain ⟨⟨X, rfl, hX⟩, hb⟩ := hcut
  rename World => wc3
  have HXJ := hid hX
  have HBJ := hid hb
  clear hX hb
  go_upto_if 46 with (go_at_call 26; (with_reducible refine (mhas4 HF HR4).mono ?_); rintro e wz ⟨rfl, rfl⟩)
  go_cut [4] (fun s wx => TxV m 5 s ∧ Below W1.heap.size W1 wx)
  case first =>
    cases r4
    case false =>
      go_wp2_with fail
      go_meet
      exact ⟨⟨X, rfl, by rw [txtK_no (by unfold onB; rw [if_neg (by decide), if_neg (by decide)]; exact HR4.out)]; exact HXJ.out⟩, HBJ.out⟩
    case true =>
      have hx := HX1.out _ HBJ.out
      have hXl : X.length ≤ 40000 := by rw [← HXJ.out]; exact HLE.out 4 (by decide)
      have hO : onB m 4 = true := by unfold onB; rw [if_neg (by decide), if_neg (by decide)]; exact HR4.out
      have hpl := partT_len HA.out HOK.out hO (by decide)
      have hYE : txtK m 5 = txtK m 4 ++ partT m 4 := txtK_yes hO
      rw [HXJ.out] at hYE
      have a5 : wc3.cell? ⟨w.heap.size, 5, none⟩ = some (.int .u64 m.num) := hx.cell rfl
      have hn64 : m.num < 18446744073709551616 := by have := HOK.out.nums; omega
      have N := numT_any 110 m.num hn64 wc3 (HT.out.ext HBJ.out)
      have hwp : partT m 4 = numT 110 m.num := rfl
      obtain ⟨PP, hPP⟩ : ∃ PP, numT 110 m.num = PP := ⟨_, rfl⟩
      rw [hPP] at N hwp
      rw [hwp] at hpl hYE
      have hpl2 : PP.length ≤ 4000 := by
        have h := hpl
        try simp only [List.length_append, List.length_cons, List.length_nil] at h
        omega
      have hYE2 : txtK m 5 = X ++ PP := hYE.trans (by first | rfl | simp only [List.append_assoc])
      have b1 := run_cat X PP (by first | omega | (simp only [List.length_append, List.length_cons, List.length_nil]; omega) | simp) (by first | omega | (simp only [List.length_append, List.length_cons, List.length_nil]; omega) | simp)
      obtain ⟨T1, hT1⟩ : ∃ T, X ++ PP = T := ⟨_, rfl⟩
      rw [hT1] at b1 hYE2
      have HYE := hid hYE2
      have HN := hid N
      clear hx hXl hO hpl hpl2 hYE hYE2 N hn64 hPP hwp hT1
      go_wp2_with fail
      (with_reducible refine HN.out.mono ?_)
      rintro e w9 ⟨rfl, hb9⟩
      have HB9 := hid (HBJ.out.trans (hb9.mono HBJ.out.size))
      clear hb9 HN a5
      go_wp2_with fail
      go_meet
      exact ⟨⟨T1, rfl, HYE.out⟩, HB9.out⟩
  case rest =>
  clear HBJ HXJ X
  obtain ⟨⟨X, rfl, hX⟩, hb⟩ := hcut
  rename World => wc4
  have HXJ := hid hX
  have HBJ := hid hb
  clear hX hb
  go_upto_if 53 with (go_at_call 26; (with_reducible refine (mhas5 HF HR5).mono ?_); rintro e wz ⟨rfl, rfl⟩)
  go_cut [4] (fun s wx => TxV m 6 s ∧ Below W1.heap.size W1 wx)
  case first =>
    cases r5
    case false =>
      go_wp2_with fail
      go_meet
      exact ⟨⟨X, rfl, by rw [txtK_no (by unfold onB; rw [if_neg (by decide), if_neg (by decide)]; exact HR5.out)]; exact HXJ.out⟩, HBJ.out⟩
    case true =>
      have hx := HX1.out _ HBJ.out
      have hXl : X.length ≤ 40000 := by rw [← HXJ.out]; exact HLE.out 5 (by decide)
      have hO : onB m 5 = true := by unfold onB; rw [if_neg (by decide), if_neg (by decide)]; exact HR5.out
      have hpl := partT_len HA.out HOK.out hO (by decide)
      have hYE : txtK m 6 = txtK m 5 ++ partT m 5 := txtK_yes hO
      rw [HXJ.out] at hYE
      have a6 : wc4.cell? ⟨w.heap.size, 6, none⟩ = some (.int .i64 m.hops) := hx.cell rfl
      obtain ⟨hn, hhn⟩ : ∃ hn : Nat, m.hops = (hn : Int) := ⟨m.hops.toNat, by have := HOK.out.hops; omega⟩
      have hh4 : hn ≤ 4 := by have := HOK.out.hops; omega
      rw [hhn] at a6
      have ek : IntKind.u64.wrap ((hn : Nat) : Int) = ((hn : Nat) : Int) := by rw [IntKind.wrap_u64]; omega
      have N := numT_any 104 hn (by omega) wc4 (HT.out.ext HBJ.out)
      have hwp : partT m 5 = numT 104 hn := by show numT 104 m.hops.toNat = _; rw [hhn]; simp
      obtain ⟨PP, hPP⟩ : ∃ PP, numT 104 hn = PP := ⟨_, rfl⟩
      rw [hPP] at N hwp
      rw [hwp] at hpl hYE
      have hpl2 : PP.length ≤ 4000 := by
        have h := hpl
        try simp only [List.length_append, List.length_cons, List.length_nil] at h
        omega
      have hYE2 : txtK m 6 = X ++ PP := hYE.trans (by first | rfl | simp only [List.append_assoc])
      have b1 := run_cat X PP (by first | omega | (simp only [List.length_append, List.length_cons, List.length_nil]; omega) | simp) (by first | omega | (simp only [List.length_append, List.length_cons, List.length_nil]; omega) | simp)
      obtain ⟨T1, hT1⟩ : ∃ T, X ++ PP = T := ⟨_, rfl⟩
      rw [hT1] at b1 hYE2
      have HYE := hid hYE2
      have HN := hid N
      clear hx hXl hO hpl hpl2 hYE hYE2 N hhn hh4 hPP hwp hT1
      go_wp2_with fail
      (with_reducible refine HN.out.mono ?_)
      rintro e w9 ⟨rfl, hb9⟩
      have HB9 := hid (HBJ.out.trans (hb9.mono HBJ.out.size))
      clear hb9 HN a6 ek
      go_wp2_with fail
      go_meet
      exact ⟨⟨T1, rfl, HYE.out⟩, HB9.out⟩
  case rest =>
  clear HBJ HXJ X
  obtain ⟨⟨X, rfl, hX⟩, hb⟩ := hcut
  rename World => wc5
  have HXJ := hid hX
  have HBJ := hid hb
  clear hX hb
  have xb := HX1.out _ HBJ.out
  have a13 : wc5.cell? ⟨w.heap.size, 13, none⟩ = some (.bool m.has) := xb.cell rfl
  rw [HHS.out] at a13
  clear xb
  go_upto_if 61 with fail
  clear a13
  go_cut [4] (fun s wx => TxV m 7 s ∧ Below W1.heap.size W1 wx)
  case first =>
    cases hs
    case false =>
      go_wp2_with fail
      go_meet
      exact ⟨⟨X, rfl, by rw [txtK_no (by unfold onB; rw [if_pos rfl]; exact HHS.out)]; exact HXJ.out⟩, HBJ.out⟩
    case true =>
      have hx := HX1.out _ HBJ.out
      have hXl : X.length ≤ 40000 := by rw [← HXJ.out]; exact HLE.out 6 (by decide)
      have hO : onB m 6 = true := by unfold onB; rw [if_pos rfl]; exact HHS.out
      have hpl := partT_len HA.out HOK.out hO (by decide)
      have hYE : txtK m 7 = txtK m 6 ++ partT m 6 := txtK_yes hO
      rw [HXJ.out] at hYE
      obtain ⟨x, y, hx1, hy1, hx2, hy2⟩ := nat_pid (x := m.a.2.1) (y := m.a.2.2) HA.out.s.a
      have a10 : wc5.cell? ⟨w.heap.size, 10, none⟩ = some (.int .u32 m.a.1) := hx.cell rfl
      have a11 : wc5.cell? ⟨w.heap.size, 11, none⟩ = some (.int .u16 m.a.2.1) := hx.cell rfl
      have a12 : wc5.cell? ⟨w.heap.size, 12, none⟩ = some (.int .u32 m.a.2.2) := hx.cell rfl
      rw [hx1] at a11
      rw [hy1] at a12
      have N := balT_any 97 m.a.1 x y HA.out.ard hx2 hy2 wc5 (HT.out.ext HBJ.out)
      have hwp : partT m 6 = balT 97 (m.a.1, ((x : Int), (y : Int))) := by show balT 97 m.a = _; rw [show m.a = (m.a.1, ((x : Int), (y : Int))) from Prod.ext rfl (Prod.ext hx1 hy1)]
      obtain ⟨PP, hPP⟩ : ∃ PP, balT 97 (m.a.1, ((x : Int), (y : Int))) = PP := ⟨_, rfl⟩
      rw [hPP] at N hwp
      rw [hwp] at hpl hYE
      have hpl2 : PP.length ≤ 4000 := by
        have h := hpl
        try simp only [List.length_append, List.length_cons, List.length_nil] at h
        omega
      have hYE2 : txtK m 7 = X ++ PP := hYE.trans (by first | rfl | simp only [List.append_assoc])
      have b1 := run_cat X PP (by first | omega | (simp only [List.length_append, List.length_cons, List.length_nil]; omega) | simp) (by first | omega | (simp only [List.length_append, List.length_cons, List.length_nil]; omega) | simp)
      obtain ⟨T1, hT1⟩ : ∃ T, X ++ PP = T := ⟨_, rfl⟩
      rw [hT1] at b1 hYE2
      have HYE := hid hYE2
      have HN := hid N
      clear hx hXl hO hpl hpl2 hYE hYE2 N hx1 hy1 hx2 hy2 hPP hwp hT1
      go_wp2_with fail
      (with_reducible refine HN.out.mono ?_)
      rintro e w9 ⟨rfl, hb9⟩
      have HB9 := hid (HBJ.out.trans (hb9.mono HBJ.out.size))
      clear hb9 HN a10 a11 a12
      go_wp2_with fail
      go_meet
      exact ⟨⟨T1, rfl, HYE.out⟩, HB9.out⟩
  case rest =>
  clear HBJ HXJ X
  obtain ⟨⟨X, rfl, hX⟩, hb⟩ := hcut
  rename World => wc6
  have HXJ := hid hX
  have HBJ := hid hb
  clear hX hb
  have xb := HX1.out _ HBJ.out
  have a13 : wc6.cell? ⟨w.heap.size, 13, none⟩ = some (.bool m.has) := xb.cell rfl
  rw [HHS.out] at a13
  clear xb
  go_upto_region 19 with fail
  go_cut [72] (fun s wx => s = .bool (hs || r7) ∧ Below W1.heap.size W1 wx)
  case first =>
    cases hs
    case false =>
      go_wp2_with (go_at_call 26; (with_reducible refine (mhas7 HF HR7).mono ?_); rintro e wz ⟨rfl, rfl⟩)
      go_meet
      exact ⟨rfl, HBJ.out⟩
    case true =>
      go_wp2_with (go_at_call 26; (with_reducible refine (mhas7 HF HR7).mono ?_); rintro e wz ⟨rfl, rfl⟩)
      go_meet
      exact ⟨rfl, HBJ.out⟩
  case rest =>
  obtain ⟨rfl, hb⟩ := hcut
  rename World => wd
  clear HBJ a13
  have HBJ := hid hb
  clear hb
  obtain ⟨q7, hq7⟩ : ∃ q, (hs || r7) = q := ⟨_, rfl⟩
  have HQ7 : Hid ((m.has || hb m.kind 7) = q7) := hid (by rw [HHS.out, HR7.out]; exact hq7)
  rw [hq7]
  clear hq7
  go_upto_if 72 with fail
  go_cut [4] (fun s wx => TxV m 8 s ∧ Below W1.heap.size W1 wx)
  case first =>
    cases q7
    case false =>
      go_wp2_with fail
      go_meet
      exact ⟨⟨X, rfl, by rw [txtK_no (by unfold onB; rw [if_neg (by decide), if_pos rfl]; exact HQ7.out)]; exact HXJ.out⟩, HBJ.out⟩
    case true =>
      have hx := HX1.out _ HBJ.out
      have hXl : X.length ≤ 40000 := by rw [← HXJ.out]; exact HLE.out 7 (by decide)
      have hO : onB m 7 = true := by unfold onB; rw [if_neg (by decide), if_pos rfl]; exact HQ7.out
      have hpl := partT_len HA.out HOK.out hO (by decide)
      have hYE : txtK m 8 = txtK m 7 ++ partT m 7 := txtK_yes hO
      rw [HXJ.out] at hYE
      have xm := hx
      have N : Calls Tryz.prog 30 #[.agg (cmdV A m.c)] wd fun e w' => e = .returned (.string ⟨(textP m.c).toArray⟩) ∧ Below wd.heap.size wd w' := cmdText_any (dc := A.dc) (cm := A.cm) (cl := A.cl) (cd := A.cd) (HA.out.r.c.ext HBJ.out) HA.out.s.csum HA.out.s.cwf HA.out.s.fr HA.out.cdl (HT.out.ext HBJ.out)
      have hwp : partT m 7 = ([32, 91] ++ textP m.c) ++ [93] := rfl
      obtain ⟨PP, hPP⟩ : ∃ PP, textP m.c = PP := ⟨_, rfl⟩
      rw [hPP] at N hwp
      rw [hwp] at hpl hYE
      have hpl2 : PP.length ≤ 4000 := by
        have h := hpl
        try simp only [List.length_append, List.length_cons, List.length_nil] at h
        omega
      have hYE2 : txtK m 8 = X ++ (([32, 91] ++ PP) ++ [93]) := hYE.trans (by first | rfl | simp only [List.append_assoc])
      have b1 := run_cat [32, 91] PP (by first | omega | (simp only [List.length_append, List.length_cons, List.length_nil]; omega) | simp) (by first | omega | (simp only [List.length_append, List.length_cons, List.length_nil]; omega) | simp)
      have b2 := run_cat ([32, 91] ++ PP) [93] (by first | omega | (simp only [List.length_append, List.length_cons, List.length_nil]; omega) | simp) (by first | omega | (simp only [List.length_append, List.length_cons, List.length_nil]; omega) | simp)
      have b3 := run_cat X (([32, 91] ++ PP) ++ [93]) (by first | omega | (simp only [List.length_append, List.length_cons, List.length_nil]; omega) | simp) (by first | omega | (simp only [List.length_append, List.length_cons, List.length_nil]; omega) | simp)
      obtain ⟨T1, hT1⟩ : ∃ T, [32, 91] ++ PP = T := ⟨_, rfl⟩
      rw [hT1] at b1 b2 b3 hYE2
      obtain ⟨T2, hT2⟩ : ∃ T, T1 ++ [93] = T := ⟨_, rfl⟩
      rw [hT2] at b2 b3 hYE2
      obtain ⟨T3, hT3⟩ : ∃ T, X ++ T2 = T := ⟨_, rfl⟩
      rw [hT3] at b3 hYE2
      have HYE := hid hYE2
      have HN := hid N
      clear hx hXl hO hpl hpl2 hYE hYE2 N hPP hwp hT1 hT2 hT3
      go_wp2_with (refine wpList_loadMC xm rfl rfl rfl ?_)
      (with_reducible refine HN.out.mono ?_)
      rintro e w9 ⟨rfl, hb9⟩
      have HB9 := hid (HBJ.out.trans (hb9.mono HBJ.out.size))
      clear hb9 HN xm
      go_wp2_with fail
      go_meet
      exact ⟨⟨T3, rfl, HYE.out⟩, HB9.out⟩
  case rest =>
  clear HBJ HXJ X
  obtain ⟨⟨X, rfl, hX⟩, hb⟩ := hcut
  rename World => wc7
  have HXJ := hid hX
  have HBJ := hid hb
  clear hX hb
  go_upto_if 81 with (go_at_call 26; (with_reducible refine (mhas8 HF HR8).mono ?_); rintro e wz ⟨rfl, rfl⟩)
  go_cut [4] (fun s wx => TxV m 9 s ∧ Below W1.heap.size W1 wx)
  case first =>
    cases r8
    case false =>
      go_wp2_with fail
      go_meet
      exact ⟨⟨X, rfl, by rw [txtK_no (by unfold onB; rw [if_neg (by decide), if_neg (by decide)]; exact HR8.out)]; exact HXJ.out⟩, HBJ.out⟩
    case true =>
      have hx := HX1.out _ HBJ.out
      have hXl : X.length ≤ 40000 := by rw [← HXJ.out]; exact HLE.out 8 (by decide)
      have hO : onB m 8 = true := by unfold onB; rw [if_neg (by decide), if_neg (by decide)]; exact HR8.out
      have hpl := partT_len HA.out HOK.out hO (by decide)
      have hYE : txtK m 9 = txtK m 8 ++ partT m 8 := txtK_yes hO
      rw [HXJ.out] at hYE
      obtain ⟨vi, hvi⟩ : ∃ vi : Nat, m.v.id = (vi : Int) := ⟨m.v.id.toNat, by have := HA.out.vid; omega⟩
      have hck : checkB m.v = true := (check_eq m.v HA.out.s.vwf).trans (HOK.out.v HR8.out)
      have a24 : wc7.cell? ⟨w.heap.size, 24, none⟩ = some (.int .u64 m.v.id) := hx.cell rfl
      have a25 : wc7.cell? ⟨w.heap.size, 25, none⟩ = some (.slice A.vm m.v.ms.length A.em) := hx.cell rfl
      have a26 : wc7.cell? ⟨w.heap.size, 26, none⟩ = some (.slice A.vl m.v.ls.length A.el) := hx.cell rfl
      have a27 : wc7.cell? ⟨w.heap.size, 27, none⟩ = some (.slice A.vd m.v.ds.length A.ed) := hx.cell rfl
      rw [hvi] at a24
      have N := viewPrint_any (cm := A.em) (cl := A.el) (cd := A.ed) hvi (HA.out.r.v.ext HBJ.out) HA.out.s.vwf HA.out.s.vsum (hid hck) (HT.out.ext HBJ.out)
      have hwp : partT m 8 = ([32, 91] ++ viewP m.v) ++ [93] := rfl
      obtain ⟨PP, hPP⟩ : ∃ PP, viewP m.v = PP := ⟨_, rfl⟩
      rw [hPP] at N hwp
      rw [hwp] at hpl hYE
      have hpl2 : PP.length ≤ 4000 := by
        have h := hpl
        try simp only [List.length_append, List.length_cons, List.length_nil] at h
        omega
      have hYE2 : txtK m 9 = X ++ (([32, 91] ++ PP) ++ [93]) := hYE.trans (by first | rfl | simp only [List.append_assoc])
      have b1 := run_cat [32, 91] PP (by first | omega | (simp only [List.length_append, List.length_cons, List.length_nil]; omega) | simp) (by first | omega | (simp only [List.length_append, List.length_cons, List.length_nil]; omega) | simp)
      have b2 := run_cat ([32, 91] ++ PP) [93] (by first | omega | (simp only [List.length_append, List.length_cons, List.length_nil]; omega) | simp) (by first | omega | (simp only [List.length_append, List.length_cons, List.length_nil]; omega) | simp)
      have b3 := run_cat X (([32, 91] ++ PP) ++ [93]) (by first | omega | (simp only [List.length_append, List.length_cons, List.length_nil]; omega) | simp) (by first | omega | (simp only [List.length_append, List.length_cons, List.length_nil]; omega) | simp)
      obtain ⟨T1, hT1⟩ : ∃ T, [32, 91] ++ PP = T := ⟨_, rfl⟩
      rw [hT1] at b1 b2 b3 hYE2
      obtain ⟨T2, hT2⟩ : ∃ T, T1 ++ [93] = T := ⟨_, rfl⟩
      rw [hT2] at b2 b3 hYE2
      obtain ⟨T3, hT3⟩ : ∃ T, X ++ T2 = T := ⟨_, rfl⟩
      rw [hT3] at b3 hYE2
      have HYE := hid hYE2
      have HN := hid N
      clear hx hXl hO hpl hpl2 hYE hYE2 N hvi hck hPP hwp hT1 hT2 hT3
      go_wp2_with fail
      (with_reducible refine HN.out.mono ?_)
      rintro e w9 ⟨rfl, hb9⟩
      have HB9 := hid (HBJ.out.trans (hb9.mono HBJ.out.size))
      clear hb9 HN a24 a25 a26 a27
      go_wp2_with fail
      go_meet
      exact ⟨⟨T3, rfl, HYE.out⟩, HB9.out⟩
  case rest =>
  clear HBJ HXJ X
  obtain ⟨⟨X, rfl, hX⟩, hb⟩ := hcut
  rename World => wc8
  have HXJ := hid hX
  have HBJ := hid hb
  clear hX hb
  go_upto_if 94 with (go_at_call 26; (with_reducible refine (mhas9 HF HR9).mono ?_); rintro e wz ⟨rfl, rfl⟩)
  go_cut [4] (fun s wx => TxV m 10 s ∧ Below W1.heap.size W1 wx)
  case first =>
    cases r9
    case false =>
      go_wp2_with fail
      go_meet
      exact ⟨⟨X, rfl, by rw [txtK_no (by unfold onB; rw [if_neg (by decide), if_neg (by decide)]; exact HR9.out)]; exact HXJ.out⟩, HBJ.out⟩
    case true =>
      have hx := HX1.out _ HBJ.out
      have hXl : X.length ≤ 40000 := by rw [← HXJ.out]; exact HLE.out 9 (by decide)
      have hO : onB m 9 = true := by unfold onB; rw [if_neg (by decide), if_neg (by decide)]; exact HR9.out
      have hpl := partT_len HA.out HOK.out hO (by decide)
      have hYE : txtK m 10 = txtK m 9 ++ partT m 9 := txtK_yes hO
      rw [HXJ.out] at hYE
      have a28 : wc8.cell? ⟨w.heap.size, 28, none⟩ = some (.slice A.ya m.y.length A.yc) := hx.cell rfl
      have N := hex_any (a := A.ya) (c := A.yc) (n := m.y.length) (hid rfl) (by have := HOK.out.len; omega) HA.out.r.yb (HA.out.r.yr.ext HBJ.out)
      have hwp : partT m 9 = [32, 120] ++ hexP m.y := rfl
      obtain ⟨PP, hPP⟩ : ∃ PP, hexP m.y = PP := ⟨_, rfl⟩
      rw [hPP] at N hwp
      rw [hwp] at hpl hYE
      have hpl2 : PP.length ≤ 4000 := by
        have h := hpl
        try simp only [List.length_append, List.length_cons, List.length_nil] at h
        omega
      have hYE2 : txtK m 10 = X ++ ([32, 120] ++ PP) := hYE.trans (by first | rfl | simp only [List.append_assoc])
      have b1 := run_cat [32, 120] PP (by first | omega | (simp only [List.length_append, List.length_cons, List.length_nil]; omega) | simp) (by first | omega | (simp only [List.length_append, List.length_cons, List.length_nil]; omega) | simp)
      have b2 := run_cat X ([32, 120] ++ PP) (by first | omega | (simp only [List.length_append, List.length_cons, List.length_nil]; omega) | simp) (by first | omega | (simp only [List.length_append, List.length_cons, List.length_nil]; omega) | simp)
      obtain ⟨T1, hT1⟩ : ∃ T, [32, 120] ++ PP = T := ⟨_, rfl⟩
      rw [hT1] at b1 b2 hYE2
      obtain ⟨T2, hT2⟩ : ∃ T, X ++ T1 = T := ⟨_, rfl⟩
      rw [hT2] at b2 hYE2
      have HYE := hid hYE2
      have HN := hid N
      clear hx hXl hO hpl hpl2 hYE hYE2 N hPP hwp hT1 hT2
      go_wp2_with fail
      (with_reducible refine HN.out.mono ?_)
      rintro e w9 ⟨rfl, hb9⟩
      have HB9 := hid (HBJ.out.trans (hb9.mono HBJ.out.size))
      clear hb9 HN a28
      go_wp2_with fail
      go_meet
      exact ⟨⟨T2, rfl, HYE.out⟩, HB9.out⟩
  case rest =>
  clear HBJ HXJ X
  obtain ⟨⟨X, rfl, hX⟩, hb⟩ := hcut
  rename World => wc9
  have HXJ := hid hX
  have HBJ := hid hb
  clear hX hb
  go_wp2_with fail
  go_ret
  exact ⟨by rw [← HE.out, HXJ.out]; rfl, HB1.out.trans (HBJ.out.mono HB1.out.size)⟩
end Go.Proofs.YtppapeoainafbaaGreatDoor

