/- Parts of the proof: X80. -/
import Derived.Test.YtbpfhclcjedkcaaSm41
import Derived.Test.YtbpfhclcjedkcaaSm49
namespace Go.Proofs.Ytbpfhclcjedkcaa
open Go.RowKit
/-! ### the law MsgBack -/
theorem cmdF_byteM {c : CmdD} (hd : ∀ b ∈ c.data, b < 256) : ∀ b ∈ cmdF c, b < 256 := by
  intro b hb
  unfold cmdF at hb
  rcases List.mem_append.1 hb with h | h
  · exact short_byteA _ b h
  · split at h
    · rcases List.mem_append.1 h with h | h
      · exact pidF_byte b h
      rcases List.mem_append.1 h with h | h
      · exact short_byteA _ b h
      rcases List.mem_append.1 h with h | h
      · exact short_byteA _ b h
      rcases List.mem_append.1 h with h | h
      · exact short_byteA _ b h
      exact hd b h
    · split at h
      · exact viewF_byte b h
      · cases h
theorem balF_byte {x : Bal} : ∀ b ∈ balF x, b < 256 := by
  intro b hb
  rcases List.mem_append.1 hb with h | h
  · exact short_byteA _ b h
  · exact pidF_byte b h
theorem letF_byte {m : MsgD} (hd : ∀ b ∈ m.c.data, b < 256) (hy : ∀ b ∈ m.y, b < 256) (i : Nat) : ∀ b ∈ letF m i, b < 256 := by
  intro b hb
  unfold letF at hb
  split at hb
  · exact pidF_byte b hb
  split at hb
  · exact short_byteA _ b hb
  split at hb
  · exact short_byteA _ b hb
  split at hb
  · exact balF_byte b hb
  split at hb
  · exact short_byteA _ b hb
  split at hb
  · exact short_byteA _ b hb
  split at hb
  · split at hb
    · rcases List.mem_append.1 hb with h | h
      · exact short_byteA _ b h
      rcases List.mem_append.1 h with h | h
      · exact balF_byte b h
      · exact cmdF_byteM hd b h
    · exact short_byteA _ b hb
  split at hb
  · exact cmdF_byteM hd b hb
  split at hb
  · exact viewF_byte b hb
  rcases List.mem_append.1 hb with h | h
  · exact short_byteA _ b h
  · exact hy b h
theorem msgF_byte {m : MsgD} (hd : ∀ b ∈ m.c.data, b < 256) (hy : ∀ b ∈ m.y, b < 256) : ∀ b ∈ msgF m, b < 256 := by
  intro b hb
  rcases List.mem_append.1 hb with h | h
  · exact short_byteA _ b h
  · obtain ⟨i, -, hi⟩ := List.mem_flatMap.1 h
    exact letF_byte hd hy i b hi
theorem msgF_len {w : World} {A : MA} {m : MsgD} (h : MsgE w A m) (hc : msgChk m = true) : (msgF m).length ≤ 890700 := by
  have hk := msgChk_ok hc
  have hkd : 1 ≤ m.kind ∧ m.kind ≤ 14 := by
    rcases kinds m.kind with e | e | e | e | e | e | e | e | e | e | e | e | e | e | ⟨-, e, -⟩
    all_goals first
      | omega
      | exact absurd e hk.f
  have := (encK_len h hk hkd).2.2.2.2
  rw [encK_10] at this; exact this
/-- what was laid of a message as the row brings it is read as it was -/
theorem MsgIn.back {w : World} {A : MA} {m : MsgD} (h : MsgIn w A m) (_hc : msgChk m = true) : MsgWf m ∧ (refCheckB m.c.v = true → Laid m.c.v) ∧ (refCheckB m.v = true → Laid m.v) :=
  ⟨⟨h.who, h.b, h.a, ⟨h.c.fr, h.c.wf.ms⟩, h.vwf.ms⟩, fun e => laid_of_check h.c.wf.ms (by rw [check_eq _ h.c.wf.ms]; exact e), fun e => laid_of_check h.vwf.ms (by rw [check_eq _ h.vwf.ms]; exact e)⟩
set_option maxRecDepth 100000 in
set_option maxHeartbeats 12800000 in
theorem msgBack_law {A B : MA} {a b : MsgD} {w : World} (hA : MsgIn w A a) (hB : MsgIn w B b) :
    Calls Try.prog 7 #[.agg (ML A a).toArray, .agg (ML B b).toArray] w fun e w' => e = .returned (.bool true) ∧ Below w.heap.size w w' := by
  obtain ⟨W1, hW1⟩ : ∃ W1, w.alloc (.cells (ML A a).toArray 46) = W1 := ⟨_, rfl⟩
  have hB1 : Below w.heap.size w W1 := by rw [← hW1]; exact (Below.refl _ _).alloc (Nat.le_refl _) _
  have xA1 : MsgBox W1 w.heap.size A a := by rw [← hW1]; exact MsgBox.made A a w _ _
  obtain ⟨W2, hW2⟩ : ∃ W2, W1.alloc (.cells (ML B b).toArray 46) = W2 := ⟨_, rfl⟩
  have hB12 : Below W1.heap.size W1 W2 := by rw [← hW2]; exact (Below.refl _ _).alloc (Nat.le_refl _) _
  have xB : MsgBox W2 W1.heap.size B b := by rw [← hW2]; exact MsgBox.made B b W1 _ _
  obtain ⟨g1, hg1⟩ : ∃ g, W1.heap.size = g := ⟨_, rfl⟩
  rw [hg1] at xB
  have xA : MsgBox W2 w.heap.size A a := xA1.ext hB12 xA1.lt
  have hB2 : Below w.heap.size w W2 := hB1.trans (hB12.mono hB1.size)
  have HX : Hid (∀ W, Below W2.heap.size W2 W → MsgBox W w.heap.size A a ∧ MsgBox W g1 B b) := hid fun W h => ⟨xA.ext h xA.lt, xB.ext h xB.lt⟩
  have HA := hid (hA.ext hB2)
  have HBB := hid (hB.ext hB2)
  have HB2 := hid hB2
  have HG := hid hg1
  obtain ⟨ga, hga⟩ : ∃ g, greatM a = g := ⟨_, rfl⟩
  obtain ⟨gb, hgb⟩ : ∃ g, greatM b = g := ⟨_, rfl⟩
  have GA := hid (msgGreat_any (hid hga) (hA.ext hB2))
  have GB : Hid (∀ W, Below W2.heap.size W2 W → Calls Try.prog 25 #[.agg (ML B b).toArray] W fun e w' => e = .returned (.bool gb) ∧ Below W2.heap.size W2 w') := hid fun W h => relB h (msgGreat_any (hid hgb) (HBB.out.ext h))
  have AW : Hid (∀ W, Below W2.heap.size W2 W → Calls Try.prog 26 #[] W fun e w' => e = .returned (.bool true) ∧ Below W2.heap.size W2 w') := hid fun W h => relB h (awakeM_any W)
  clear hA hB hB1 hB12 xA1 xB hB2
  cases ga
  case true =>
    clear hga hgb
    go_enter Try.func7, Try.ntmps7
    go_wp2_with (first
      | (refine wpList_loadM xA rfl rfl rfl ?_)
      | (go_at_call 25; (with_reducible refine GA.out.mono ?_); rintro e w3 ⟨rfl, hb3⟩)
      | (go_at_call 26; (with_reducible refine (AW.out _ hb3).mono ?_); rintro e w9 ⟨rfl, hb9⟩))
    go_ret
    exact ⟨rfl, HB2.out.trans (hb9.mono HB2.out.size)⟩
  cases gb
  case true =>
    clear hga hgb
    go_enter Try.func7, Try.ntmps7
    go_wp2_with (first
      | (refine wpList_loadM xA rfl rfl rfl ?_)
      | (go_at_call 25; (with_reducible refine GA.out.mono ?_); rintro e w3 ⟨rfl, hb3⟩; have xB3 := (HX.out _ hb3).2)
      | (refine wpList_loadMw xB3 (by rfl) rfl rfl ?_)
      | (go_at_call 25; (with_reducible refine (GB.out _ hb3).mono ?_); rintro e w4 ⟨rfl, hb4⟩)
      | (go_at_call 26; (with_reducible refine (AW.out _ hb4).mono ?_); rintro e w9 ⟨rfl, hb9⟩))
    go_ret
    exact ⟨rfl, HB2.out.trans (hb9.mono HB2.out.size)⟩
  have HEA := hid (HA.out.e hga)
  have HEB := hid (HBB.out.e hgb)
  clear hga hgb
  go_enter Try.func7, Try.ntmps7
  go_upto_region 3 with (first
    | (refine wpList_loadM xA rfl rfl rfl ?_)
    | (go_at_call 25; (with_reducible refine GA.out.mono ?_); rintro e w3 ⟨rfl, hb3⟩; have xB3 := (HX.out _ hb3).2)
    | (refine wpList_loadMw xB3 (by rfl) rfl rfl ?_)
    | (go_at_call 25; (with_reducible refine (GB.out _ hb3).mono ?_); rintro e w4 ⟨rfl, hb4⟩))
  have HB4 := hid hb4
  clear GA GB xA xB3 hb3 hb4
  go_cut [28] (fun s wx => s = .bool false ∧ Below W2.heap.size W2 wx)
  case first =>
    obtain ⟨r, hr⟩ : ∃ r, sameM a b = r := ⟨_, rfl⟩
    have S1 : Hid (∀ W, Below W2.heap.size W2 W → Calls Try.prog 43 #[.agg (ML A a).toArray, .agg (ML B b).toArray] W fun e w' => e = .returned (.bool r) ∧ Below W2.heap.size W2 w') := hid fun W h => relB h (by rw [← hr]; exact msgSame_any (HEA.out.ext h).r (HEB.out.ext h).r)
    have S2 : Hid (∀ W, Below W2.heap.size W2 W → Calls Try.prog 41 #[.agg (ML A a).toArray, .agg (ML B b).toArray] W fun e w' => e = .returned (.bool r) ∧ Below W2.heap.size W2 w') := hid fun W h => relB h (by rw [← hr]; exact msgSameR_any (HEA.out.ext h).r (HEB.out.ext h).r)
    have S3 : Hid (∀ W, Below W2.heap.size W2 W → Calls Try.prog 43 #[.agg (ML A a).toArray, .agg (ML A a).toArray] W fun e w' => e = .returned (.bool true) ∧ Below W2.heap.size W2 w') := hid fun W h => relB h (by have := msgSame_any (HEA.out.ext h).r (HEA.out.ext h).r; rw [sameM_self] at this; exact this)
    have HS : Hid (∀ W, Below W2.heap.size W2 W → W.rangeAt w.heap.size 0 (ML A a) ∧ W.rangeAt g1 0 (ML B b)) := hid fun W h => ⟨(HX.out W h).1, (HX.out W h).2⟩
    have H0 := HB4.out.drew
    have bn : (r != r) = false := by cases r <;> rfl
    clear hr
    refine wp_region_held_drew (S := fun W => W.rangeAt w.heap.size 0 (ML A a) ∧ W.rangeAt g1 0 (ML B b)) (by kernel_rfl) (HS.out _ H0) (fun hHeld => ?_)
    refine wpAnyH_take (i := 0) (oi := _) (v := .agg (ML A a).toArray) rfl (by kernel_rfl) (by kernel_rfl) (by kernel_rfl) (fun _ _ _ h => h) ((yieldsIf_load_mid (by rfl) 46 _ rfl w.heap.size 0 rfl (ML A a) _ (fun W h => h.1) Try.underlying46 rfl (infoML A a))) (by assumption) ?_
    try simp only [Act.put, List.getElem_toArray, List.getElem_cons_zero, List.setIfInBounds_toArray, List.set_cons_zero, List.set_cons_succ]
    refine wpAnyH_take (i := 1) (oi := _) (v := .agg (ML B b).toArray) rfl (by kernel_rfl) (by kernel_rfl) (by kernel_rfl) (fun _ _ _ h => h) ((yieldsIf_load_mid (by rfl) 46 _ rfl g1 0 rfl (ML B b) _ (fun W h => h.2) Try.underlying46 rfl (infoML B b))) (by assumption) ?_
    try simp only [Act.put, List.getElem_toArray, List.getElem_cons_succ, List.getElem_cons_zero, List.setIfInBounds_toArray, List.set_cons_zero, List.set_cons_succ]
    refine wpAnyH_take (i := 3) (oi := _) (v := .agg (ML A a).toArray) rfl (by kernel_rfl) (by kernel_rfl) (by kernel_rfl) (fun _ _ _ h => h) ((yieldsIf_load_mid (by rfl) 46 _ rfl w.heap.size 0 rfl (ML A a) _ (fun W h => h.1) Try.underlying46 rfl (infoML A a))) (by assumption) ?_
    try simp only [Act.put, List.getElem_toArray, List.getElem_cons_succ, List.getElem_cons_zero, List.setIfInBounds_toArray, List.set_cons_zero, List.set_cons_succ]
    refine wpAnyH_take (i := 4) (oi := _) (v := .agg (ML B b).toArray) rfl (by kernel_rfl) (by kernel_rfl) (by kernel_rfl) (fun _ _ _ h => h) ((yieldsIf_load_mid (by rfl) 46 _ rfl g1 0 rfl (ML B b) _ (fun W h => h.2) Try.underlying46 rfl (infoML B b))) (by assumption) ?_
    try simp only [Act.put, List.getElem_toArray, List.getElem_cons_succ, List.getElem_cons_zero, List.setIfInBounds_toArray, List.set_cons_zero, List.set_cons_succ]
    refine wpAnyH_ready (rs := [2]) (by kernel_rfl) (by simp) ?_
    refine AllReadyH.cons (o := _) rfl (fun K hK => ?_) AllReadyH.nil
    go_simp
    (with_reducible refine (S1.out _ H0).mono ?_)
    rintro e wa ⟨rfl, ha⟩
    refine hK.out _ _ (HS.out _ (ha)) (fun hHeld => ?_)
    clear hK K
    try simp only [Act.put, List.getElem_toArray, List.getElem_cons_succ, List.getElem_cons_zero, List.setIfInBounds_toArray, List.set_cons_zero, List.set_cons_succ]
    refine wpAnyH_ready (rs := [5]) (by kernel_rfl) (by simp) ?_
    refine AllReadyH.cons (o := _) rfl (fun K hK => ?_) AllReadyH.nil
    go_simp
    (with_reducible refine (S2.out _ ha).mono ?_)
    rintro e wb ⟨rfl, hb⟩
    refine hK.out _ _ (HS.out _ (hb)) (fun hHeld => ?_)
    clear hK K
    try simp only [Act.put, List.getElem_toArray, List.getElem_cons_succ, List.getElem_cons_zero, List.setIfInBounds_toArray, List.set_cons_zero, List.set_cons_succ]
    refine wpAnyH_take (i := 6) (oi := _) (v := .bool false) rfl (by kernel_rfl) (by kernel_rfl) (by kernel_rfl) (fun _ _ _ h => h) (Or.inl ⟨by rfl, ?_⟩) (by assumption) ?_
    · intro W hSw
      try dsimp only at hSw
      go_simp
    try simp only [Act.put, List.getElem_toArray, List.getElem_cons_succ, List.getElem_cons_zero, List.setIfInBounds_toArray, List.set_cons_zero, List.set_cons_succ]
    refine wpAnyH_take (i := 7) (oi := _) (v := .bool false) rfl (by kernel_rfl) (by kernel_rfl) (by kernel_rfl) (fun _ _ _ h => h) (Or.inl ⟨by rfl, ?_⟩) (by assumption) ?_
    · intro W hSw
      try dsimp only at hSw
      go_simp
    try simp only [Act.put, List.getElem_toArray, List.getElem_cons_succ, List.getElem_cons_zero, List.setIfInBounds_toArray, List.set_cons_zero, List.set_cons_succ]
    refine wpAnyH_take (i := 8) (oi := _) (v := .agg (ML A a).toArray) rfl (by kernel_rfl) (by kernel_rfl) (by kernel_rfl) (fun _ _ _ h => h) ((yieldsIf_load_mid (by rfl) 46 _ rfl w.heap.size 0 rfl (ML A a) _ (fun W h => h.1) Try.underlying46 rfl (infoML A a))) (by assumption) ?_
    try simp only [Act.put, List.getElem_toArray, List.getElem_cons_succ, List.getElem_cons_zero, List.setIfInBounds_toArray, List.set_cons_zero, List.set_cons_succ]
    refine wpAnyH_take (i := 9) (oi := _) (v := .agg (ML A a).toArray) rfl (by kernel_rfl) (by kernel_rfl) (by kernel_rfl) (fun _ _ _ h => h) ((yieldsIf_load_mid (by rfl) 46 _ rfl w.heap.size 0 rfl (ML A a) _ (fun W h => h.1) Try.underlying46 rfl (infoML A a))) (by assumption) ?_
    try simp only [Act.put, List.getElem_toArray, List.getElem_cons_succ, List.getElem_cons_zero, List.setIfInBounds_toArray, List.set_cons_zero, List.set_cons_succ]
    refine wpAnyH_ready (rs := [10]) (by kernel_rfl) (by simp) ?_
    refine AllReadyH.cons (o := _) rfl (fun K hK => ?_) AllReadyH.nil
    go_simp
    (with_reducible refine (S3.out _ hb).mono ?_)
    rintro e wc ⟨rfl, hc⟩
    refine hK.out _ _ (HS.out _ (hc)) (fun hHeld => ?_)
    clear hK K
    try simp only [Act.put, List.getElem_toArray, List.getElem_cons_succ, List.getElem_cons_zero, List.setIfInBounds_toArray, List.set_cons_zero, List.set_cons_succ]
    refine wpAnyH_take (i := 11) (oi := _) (v := .bool false) rfl (by kernel_rfl) (by kernel_rfl) (by kernel_rfl) (fun _ _ _ h => h) (Or.inl ⟨by rfl, ?_⟩) (by assumption) ?_
    · intro W hSw
      try dsimp only at hSw
      go_simp
    try simp only [Act.put, List.getElem_toArray, List.getElem_cons_succ, List.getElem_cons_zero, List.setIfInBounds_toArray, List.set_cons_zero, List.set_cons_succ]
    refine wpAnyH_take (i := 12) (oi := _) (v := .bool false) rfl (by kernel_rfl) (by kernel_rfl) (by kernel_rfl) (fun _ _ _ h => h) (Or.inl ⟨by rfl, ?_⟩) (by assumption) ?_
    · intro W hSw
      try dsimp only at hSw
      go_simp
    try simp only [Act.put, List.getElem_toArray, List.getElem_cons_succ, List.getElem_cons_zero, List.setIfInBounds_toArray, List.set_cons_zero, List.set_cons_succ]
    refine wpAnyH_done (by kernel_rfl) ?_ _
    go_wp2_with fail
    go_meet
    exact ⟨rfl, hc⟩
  case rest =>
  obtain ⟨rfl, hb5⟩ := hcut
  rename World => w5
  obtain ⟨xA5, -⟩ := HX.out _ hb5
  have HB5 := hid hb5
  clear hb5 HB4
  cases hc : msgChk a
  case false =>
    have EN : Hid (∀ W, Below W2.heap.size W2 W → Calls Try.prog 27 #[.agg (ML A a).toArray] W fun e w' => (∃ a c, e = .returned (.tuple #[.slice a 0 c, .int .i64 1])) ∧ Below W2.heap.size W2 w') := hid fun W hW => (msgEncode_any (HEA.out.ext hW)).mono fun e w' ⟨v, h1, h2, h3⟩ => by
      rw [hc] at h1 h2
      simp only [Bool.false_eq_true, if_false] at h2
      obtain ⟨a, c, rfl, -, -⟩ := h2.row
      exact ⟨⟨a, c, h1⟩, hW.trans (h3.mono hW.size)⟩
    clear hc
    go_wp2_with (first
      | (refine wpList_loadM xA5 rfl rfl rfl ?_)
      | (go_at_call 27; (with_reducible refine (EN.out _ HB5.out).mono ?_); rintro e w6 ⟨⟨a6, c6, rfl⟩, hb6⟩)
      | (go_at_call 26; (with_reducible refine (AW.out _ hb6).mono ?_); rintro e w9 ⟨rfl, hb9⟩))
    go_ret
    exact ⟨rfl, HB2.out.trans (hb9.mono HB2.out.size)⟩
  case true =>
    obtain ⟨F, hF⟩ : ∃ F, msgF a = F := ⟨_, rfl⟩
    obtain ⟨N, hN⟩ : ∃ N, F.length = N := ⟨_, rfl⟩
    have hNl : N ≤ 890700 := by have := msgF_len HEA.out hc; rw [hF, hN] at this; exact this
    have EN : Hid (∀ W, Below W2.heap.size W2 W → Calls Try.prog 27 #[.agg (ML A a).toArray] W fun e w' => ∃ a c, e = .returned (.tuple #[.slice a N c, .int .i64 0]) ∧ ByteRow w' a F ∧ Below W2.heap.size W2 w') := hid fun W hW => (msgEncode_any (HEA.out.ext hW)).mono fun e w' ⟨v, h1, h2, h3⟩ => by
      rw [hc] at h1 h2
      rw [if_pos rfl, hF] at h2
      obtain ⟨a, c, rfl, hr, -⟩ := h2.row
      rw [hN] at h1
      exact ⟨a, c, h1, hr, hW.trans (h3.mono hW.size)⟩
    obtain ⟨bk1, bk2, bk3⟩ := HA.out.back hc
    have BK : Hid (rMsg F = (a, 0)) := hid (by rw [← hF]; exact rMsg_back hc bk1 bk2 bk3)
    have BY : Hid (∀ b ∈ F, b < 256) := hid (by rw [← hF]; exact msgF_byte HA.out.c.db HA.out.yb)
    have HN := hid hN
    clear hc hF hN bk1 bk2 bk3
    go_wp2_with (first
      | (refine wpList_loadM xA5 rfl rfl rfl ?_)
      | fail)
    (with_reducible refine (EN.out _ HB5.out).mono ?_)
    rintro e w6 ⟨a6, c6, rfl, hr6, hb6⟩
    have D0 := msgDecode_any (bc := c6) HN (by omega) BY.out hr6
    rw [BK.out] at D0
    have D := hid D0
    have HB6 := hid hb6
    clear D0 hr6 hb6 xA5
    go_wp2_with fail
    (with_reducible refine D.out.mono ?_)
    rintro e w7 ⟨A7, rfl, hmo7, hdk7, hb7⟩
    have HB7 := hid (HB6.out.trans (hb7.mono HB6.out.size))
    have HMO7 := hid hmo7
    have HDK7 := hid hdk7
    clear hmo7 hdk7 hb7 D HB6
    obtain ⟨g8, hg8⟩ : ∃ q, w7.heap.size = q := ⟨_, rfl⟩
    obtain ⟨WZ, hWZ⟩ : ∃ WZ, w7.alloc (.cells #[.int .i64 0, .int .u16 0, .int .u32 0, .int .u64 0, .int .u64 0, .int .u64 0, .int .i64 0, .int .u32 0, .int .u16 0, .int .u32 0, .int .u32 0, .int .u16 0, .int .u32 0, .bool false, .int .i64 0, .int .u16 0, .int .u32 0, .int .u64 0, .int .u64 0, .slice none 0 0, .int .u64 0, .slice none 0 0, .slice none 0 0, .slice none 0 0, .int .u64 0, .slice none 0 0, .slice none 0 0, .slice none 0 0, .slice none 0 0] 46) = WZ := ⟨_, rfl⟩
    have ht0 : WZ.there g8 0 29 := by rw [← hWZ, ← hg8]; exact putThere w7
    have hb8 := putBelow w7 A7 a
    have x8 := putBox w7 A7 a
    rw [hWZ, hg8] at hb8 x8
    obtain ⟨w8, hw8⟩ : ∃ W, WZ.setCells g8 0 (ML A7 a) = W := ⟨_, rfl⟩
    rw [hw8] at hb8 x8
    have HQ := hid hg8
    have HB := hid hb8
    have HX8 := hid x8
    clear hg8 hb8 x8
    go_upto_region 9 with (refine wpList_storeM (A := A7) (m := a) ht0 rfl rfl (by rw [← HQ.out]; rfl) rfl ?_; rw [hw8])
    have hg8 := HQ.out
    have hb8 := HB.out
    have x8 := HX8.out
    clear hWZ hw8 ht0 HB HX8
    rw [← hg8] at hb8 x8
    have hB8 := HB7.out.trans (hb8.mono HB7.out.size)
    have SM0 := msgSameR_any ((HMO7.out.r HDK7.out).ext hb8) (HEA.out.ext hB8).r
    rw [sameM_self] at SM0
    have SM := hid SM0
    obtain ⟨xA8, -⟩ := HX.out _ hB8
    have HB8 := hid hB8
    clear SM0 hg8 HQ hb8 hB8 HB7 HMO7 HDK7
    go_wp2_with (first
      | (refine wpList_loadMw x8 (by rfl) rfl rfl ?_)
      | (refine wpList_loadMw xA8 (by rfl) rfl rfl ?_)
      | (go_at_call 41; (with_reducible refine SM.out.mono ?_); rintro e w9 ⟨rfl, hb9⟩; have hB9 := HB8.out.trans (hb9.mono HB8.out.size); clear SM hb9)
      | (go_at_call 26; (with_reducible refine (AW.out _ hB9).mono ?_); rintro e w10 ⟨rfl, hb10⟩))
    go_ret
    exact ⟨rfl, HB2.out.trans (hb10.mono HB2.out.size)⟩
end Go.Proofs.Ytbpfhclcjedkcaa

