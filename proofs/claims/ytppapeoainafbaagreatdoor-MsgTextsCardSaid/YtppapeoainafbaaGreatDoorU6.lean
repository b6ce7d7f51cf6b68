/- Parts of the proof: U6. -/
import Derived.Test.YtppapeoainafbaaGreatDoorX62b
namespace Go.Proofs.YtppapeoainafbaaGreatDoor
open Go.RowKit
/-! ### the law MsgTexts -/
structure BeatIT (w : World) (a : Option Addr) (x : BeatD) : Prop where
  row : PidRow w a x.sus
  ok : ∀ p ∈ x.sus, okP p
theorem BeatIT.ext {w w' : World} {a : Option Addr} {x : BeatD} (h : BeatIT w a x) (hb : Below w.heap.size w w') : BeatIT w' a x := ⟨h.row.ext hb, h.ok⟩
theorem infoBtT : (Tryz.prog.info? 39).map (·.size) = some 5 := by kernel_rfl
def BL (x : BeatD) (a : Option Addr) (n c : Nat) : List Value := [.int .u64 x.v, .int .u64 x.ap, .int .u64 x.be, .int .u64 x.st, .slice a n c]
theorem BeatBox.range {w : World} {g : Nat} {x : BeatD} {a : Option Addr} {n c : Nat} (h : BeatBox w g x a n c) : w.rangeAt g 0 (BL x a n c) := fun j v hv => by
  have hj : j < 5 := (List.getElem?_eq_some_iff.1 hv).1
  have : j = 0 ∨ j = 1 ∨ j = 2 ∨ j = 3 ∨ j = 4 := by omega
  rw [Nat.zero_add]
  rcases this with rfl | rfl | rfl | rfl | rfl <;> cases hv
  · exact h.c0
  · exact h.c1
  · exact h.c2
  · exact h.c3
  · exact h.c4
set_option maxRecDepth 100000 in
set_option maxHeartbeats 12800000 in
theorem msgTexts_law {A B : MA} {a b : MsgD} {x : BeatD} {xa : Option Addr} {xc n : Nat} {w : World} (hn : Hid (x.sus.length = n)) (hA : MsgIn w A a) (hB : MsgIn w B b) (hX : BeatIT w xa x) (ht : TabOk w) :
    Calls Tryz.prog 3 #[.agg (ML A a).toArray, .agg (ML B b).toArray, .agg #[.int .u64 x.v, .int .u64 x.ap, .int .u64 x.be, .int .u64 x.st, .slice xa n xc]] w fun e w' => e = .returned (.bool true) ∧ Below w.heap.size w w' := by
  obtain ⟨W1, hW1⟩ : ∃ W1, w.alloc (.cells (ML A a).toArray 37) = W1 := ⟨_, rfl⟩
  have hB1 : Below w.heap.size w W1 := by rw [← hW1]; exact (Below.refl _ _).alloc (Nat.le_refl _) _
  have xA1 : MsgBox W1 w.heap.size A a := by rw [← hW1]; exact MsgBox.made A a w _ _
  obtain ⟨W2, hW2⟩ : ∃ W2, W1.alloc (.cells (ML B b).toArray 37) = W2 := ⟨_, rfl⟩
  have hB12 : Below W1.heap.size W1 W2 := by rw [← hW2]; exact (Below.refl _ _).alloc (Nat.le_refl _) _
  have xB2 : MsgBox W2 W1.heap.size B b := by rw [← hW2]; exact MsgBox.made B b W1 _ _
  obtain ⟨W3, hW3⟩ : ∃ W3, W2.alloc (.cells #[.int .u64 x.v, .int .u64 x.ap, .int .u64 x.be, .int .u64 x.st, .slice xa n xc] 39) = W3 := ⟨_, rfl⟩
  have hB23 : Below W2.heap.size W2 W3 := by rw [← hW3]; exact (Below.refl _ _).alloc (Nat.le_refl _) _
  have xX : BeatBox W3 W2.heap.size x xa n xc := by rw [← hW3]; exact BeatBox.made W2
  obtain ⟨g1, hg1⟩ : ∃ g, W1.heap.size = g := ⟨_, rfl⟩
  obtain ⟨g2, hg2⟩ : ∃ g, W2.heap.size = g := ⟨_, rfl⟩
  have xB : MsgBox W3 W1.heap.size B b := xB2.ext hB23 xB2.lt
  rw [hg1] at xB
  rw [hg2] at xX
  have hB13 : Below W1.heap.size W1 W3 := hB12.trans (hB23.mono hB12.size)
  have xA : MsgBox W3 w.heap.size A a := xA1.ext hB13 xA1.lt
  have hB3 : Below w.heap.size w W3 := hB1.trans (hB13.mono hB1.size)
  have HX : Hid (∀ W, Below W3.heap.size W3 W → MsgBox W w.heap.size A a ∧ MsgBox W g1 B b ∧ BeatBox W g2 x xa n xc) := hid fun W h => ⟨xA.ext h xA.lt, xB.ext h xB.lt, xX.ext h xX.lt⟩
  have HA := hid (hA.ext hB3)
  have HBB := hid (hB.ext hB3)
  have HXX := hid (hX.ext hB3)
  have HT := hid (ht.ext hB3)
  have HB3 := hid hB3
  obtain ⟨ga, hga⟩ : ∃ g, greatM a = g := ⟨_, rfl⟩
  obtain ⟨gb, hgb⟩ : ∃ g, greatM b = g := ⟨_, rfl⟩
  have GA := hid (msgGreat_any (hid hga) HA.out)
  have GB : Hid (∀ W, Below W3.heap.size W3 W → Calls Tryz.prog 5 #[.agg (ML B b).toArray] W fun e w' => e = .returned (.bool gb) ∧ Below W3.heap.size W3 w') := hid fun W h => relB h (msgGreat_any (hid hgb) (HBB.out.ext h))
  have AW : Hid (∀ W, Below W3.heap.size W3 W → Calls Tryz.prog 6 #[] W fun e w' => e = .returned (.bool true) ∧ Below W3.heap.size W3 w') := hid fun W h => relB h (awakeM_any W)
  clear hA hB hX ht hB1 hB12 hB23 hB13 xA1 xB2 xX xB hB3
  cases ga
  case true =>
    clear hga hgb
    go_enter Tryz.func3, Tryz.ntmps3
    go_wp2_with (first
      | (refine wpList_loadM xA rfl rfl rfl ?_)
      | (go_at_call 5; (with_reducible refine GA.out.mono ?_); rintro e w3 ⟨rfl, hb3⟩)
      | (go_at_call 6; (with_reducible refine (AW.out _ hb3).mono ?_); rintro e w9 ⟨rfl, hb9⟩))
    go_ret
    exact ⟨rfl, HB3.out.trans (hb9.mono HB3.out.size)⟩
  cases gb
  case true =>
    clear hga hgb
    go_enter Tryz.func3, Tryz.ntmps3
    go_wp2_with (first
      | (refine wpList_loadM xA rfl rfl rfl ?_)
      | (go_at_call 5; (with_reducible refine GA.out.mono ?_); rintro e w3 ⟨rfl, hb3⟩; have xB3 := (HX.out _ hb3).2.1)
      | (refine wpList_loadMw xB3 (by rfl) rfl rfl ?_)
      | (go_at_call 5; (with_reducible refine (GB.out _ hb3).mono ?_); rintro e w4 ⟨rfl, hb4⟩)
      | (go_at_call 6; (with_reducible refine (AW.out _ hb4).mono ?_); rintro e w9 ⟨rfl, hb9⟩))
    go_ret
    exact ⟨rfl, HB3.out.trans (hb9.mono HB3.out.size)⟩
  have HEA := hid (HA.out.e hga)
  have HEB := hid (HBB.out.e hgb)
  clear hga hgb
  by_cases hn60 : 60 < n
  case pos =>
    have d1 : decide ((n : Int) > 60) = true := decide_eq_true (by omega)
    have d2 : decide (60 < (n : Int)) = true := decide_eq_true (by omega)
    have d3 : decide (60 < n) = true := decide_eq_true (by omega)
    go_enter Tryz.func3, Tryz.ntmps3
    go_wp2_with (first
      | (refine wpList_loadM xA rfl rfl rfl ?_)
      | (go_at_call 5; (with_reducible refine GA.out.mono ?_); rintro e w3 ⟨rfl, hb3⟩; have xB3 := (HX.out _ hb3).2.1)
      | (refine wpList_loadMw xB3 (by rfl) rfl rfl ?_)
      | (go_at_call 5; (with_reducible refine (GB.out _ hb3).mono ?_); rintro e w4 ⟨rfl, hb4⟩; have c4 := (HX.out _ hb4).2.2.c4)
      | (go_at_call 6; (with_reducible refine (AW.out _ hb4).mono ?_); rintro e w9 ⟨rfl, hb9⟩))
    go_ret
    exact ⟨rfl, HB3.out.trans (hb9.mono HB3.out.size)⟩
  have d1 : decide ((n : Int) > 60) = false := decide_eq_false (by omega)
  have d2 : decide (60 < (n : Int)) = false := decide_eq_false (by omega)
  have d3 : decide (60 < n) = false := decide_eq_false (by omega)
  have HN60 : Hid (n ≤ 60) := hid (by omega)
  obtain ⟨S, hS⟩ : ∃ S, msgT a = S := ⟨_, rfl⟩
  obtain ⟨T, hT⟩ : ∃ T, msgT b = T := ⟨_, rfl⟩
  obtain ⟨X, hX⟩ : ∃ X, beatT x = X := ⟨_, rfl⟩
  obtain ⟨r, hr⟩ : ∃ r, sameM a b = r := ⟨_, rfl⟩
  have TA : Hid (∀ W, Below W3.heap.size W3 W → Calls Tryz.prog 7 #[.agg (ML A a).toArray] W fun e w' => e = .returned (.string ⟨S.toArray⟩) ∧ Below W3.heap.size W3 w') := hid fun W h => relB h (by rw [← hS]; exact msgText_any (HEA.out.ext h) (HT.out.ext h))
  have TB : Hid (∀ W, Below W3.heap.size W3 W → Calls Tryz.prog 7 #[.agg (ML B b).toArray] W fun e w' => e = .returned (.string ⟨T.toArray⟩) ∧ Below W3.heap.size W3 w') := hid fun W h => relB h (by rw [← hT]; exact msgText_any (HEB.out.ext h) (HT.out.ext h))
  have RA : Hid (∀ W, Below W3.heap.size W3 W → Calls Tryz.prog 8 #[.agg (ML A a).toArray] W fun e w' => e = .returned (.string ⟨S.toArray⟩) ∧ Below W3.heap.size W3 w') := hid fun W h => relB h (by rw [← hS]; exact msgTextR_any (HEA.out.ext h))
  have RB : Hid (∀ W, Below W3.heap.size W3 W → Calls Tryz.prog 8 #[.agg (ML B b).toArray] W fun e w' => e = .returned (.string ⟨T.toArray⟩) ∧ Below W3.heap.size W3 w') := hid fun W h => relB h (by rw [← hT]; exact msgTextR_any (HEB.out.ext h))
  have BA : Hid (∀ W, Below W3.heap.size W3 W → Calls Tryz.prog 9 #[.agg (BL x xa n xc).toArray] W fun e w' => e = .returned (.string ⟨X.toArray⟩) ∧ Below W3.heap.size W3 w') := hid fun W h => relB h (by rw [← hX]; exact beatText_any hn (by have := HN60.out; omega) HXX.out.ok (HXX.out.row.ext h) (HT.out.ext h))
  have BR : Hid (∀ W, Below W3.heap.size W3 W → Calls Tryz.prog 10 #[.agg (BL x xa n xc).toArray] W fun e w' => e = .returned (.string ⟨X.toArray⟩) ∧ Below W3.heap.size W3 w') := hid fun W h => relB h (by rw [← hX]; exact beatTextR_any hn (by have := HN60.out; omega) HXX.out.ok (HXX.out.row.ext h))
  have SM : Hid (∀ W, Below W3.heap.size W3 W → Calls Tryz.prog 11 #[.agg (ML A a).toArray, .agg (ML B b).toArray] W fun e w' => e = .returned (.bool r) ∧ Below W3.heap.size W3 w') := hid fun W h => relB h (by rw [← hr]; exact msgSameR_any (HEA.out.ext h).r (HEB.out.ext h).r)
  have PL : Hid (S = T → S ≠ [63] → r = true) := hid fun e ne => by
    have wa : MsgWf a := ⟨HA.out.who, HA.out.b, HA.out.a, ⟨HA.out.c.fr, HA.out.c.wf.ms⟩, HA.out.vwf.ms⟩
    have wb : MsgWf b := ⟨HBB.out.who, HBB.out.b, HBB.out.a, ⟨HBB.out.c.fr, HBB.out.c.wf.ms⟩, HBB.out.vwf.ms⟩
    have := msgT_inj wa wb HA.out.yb HBB.out.yb HA.out.c.db HBB.out.c.db ⟨HA.out.c.fr, HA.out.c.wf.ms⟩ ⟨HBB.out.c.fr, HBB.out.c.wf.ms⟩ HA.out.vwf.ms HBB.out.vwf.ms (by rw [hS, hT]; exact e) (by rw [hS]; exact ne)
    rw [← hr, this]
    exact sameM_self b
  have HS : Hid (∀ W, Below W3.heap.size W3 W → W.rangeAt w.heap.size 0 (ML A a) ∧ W.rangeAt g1 0 (ML B b) ∧ W.rangeAt g2 0 (BL x xa n xc)) := hid fun W h => ⟨(HX.out W h).1, (HX.out W h).2.1, (HX.out W h).2.2.range⟩
  clear hS hT hX hr hn60
  go_enter Tryz.func3, Tryz.ntmps3
  go_upto_region 3 with (first
    | (refine wpList_loadM xA rfl rfl rfl ?_)
    | (go_at_call 5; (with_reducible refine GA.out.mono ?_); rintro e w3 ⟨rfl, hb3⟩; have xB3 := (HX.out _ hb3).2.1)
    | (refine wpList_loadMw xB3 (by rfl) rfl rfl ?_)
    | (go_at_call 5; (with_reducible refine (GB.out _ hb3).mono ?_); rintro e w4 ⟨rfl, hb4⟩; have c4 := (HX.out _ hb4).2.2.c4))
  have HB4 := hid hb4
  clear GA GB xA xB3 hb3 hb4 c4 d1 d2 d3
  go_cut [7, 8] (fun s t wx => s = .string ⟨S.toArray⟩ ∧ t = .string ⟨T.toArray⟩ ∧ Below W3.heap.size W3 wx)
  case first =>
    have H0 := HB4.out.drew
    refine wp_region_held_drew (S := fun W => W.rangeAt w.heap.size 0 (ML A a) ∧ W.rangeAt g1 0 (ML B b) ∧ W.rangeAt g2 0 (BL x xa n xc)) (by kernel_rfl) (HS.out _ H0) (fun hHeld => ?_)
    refine wpAnyH_take (i := 0) (oi := _) (v := .agg (ML A a).toArray) rfl (by kernel_rfl) (by kernel_rfl) (by kernel_rfl) (fun _ _ _ h => h) ((yieldsIf_load_mid (by rfl) 37 _ rfl w.heap.size 0 rfl (ML A a) _ (fun W h => h.1) Tryz.underlying37 rfl (infoML A a))) (by assumption) ?_
    try simp only [Act.put, List.getElem_toArray, List.getElem_cons_succ, List.getElem_cons_zero, List.setIfInBounds_toArray, List.set_cons_zero, List.set_cons_succ]
    refine wpAnyH_take (i := 2) (oi := _) (v := .agg (ML B b).toArray) rfl (by kernel_rfl) (by kernel_rfl) (by kernel_rfl) (fun _ _ _ h => h) ((yieldsIf_load_mid (by rfl) 37 _ rfl g1 0 rfl (ML B b) _ (fun W h => h.2.1) Tryz.underlying37 rfl (infoML B b))) (by assumption) ?_
    try simp only [Act.put, List.getElem_toArray, List.getElem_cons_succ, List.getElem_cons_zero, List.setIfInBounds_toArray, List.set_cons_zero, List.set_cons_succ]
    refine wpAnyH_ready (rs := [1]) (by kernel_rfl) (by simp) ?_
    refine AllReadyH.cons (o := _) rfl (fun K hK => ?_) AllReadyH.nil
    go_simp
    (with_reducible refine (TA.out _ H0).mono ?_)
    rintro e wa ⟨rfl, ha⟩
    refine hK.out _ _ (HS.out _ ha) (fun hHeld => ?_)
    clear hK K
    try simp only [Act.put, List.getElem_toArray, List.getElem_cons_succ, List.getElem_cons_zero, List.setIfInBounds_toArray, List.set_cons_zero, List.set_cons_succ]
    refine wpAnyH_ready (rs := [3]) (by kernel_rfl) (by simp) ?_
    refine AllReadyH.cons (o := _) rfl (fun K hK => ?_) AllReadyH.nil
    go_simp
    (with_reducible refine (TB.out _ ha).mono ?_)
    rintro e wb ⟨rfl, hb⟩
    refine hK.out _ _ (HS.out _ hb) (fun hHeld => ?_)
    clear hK K
    try simp only [Act.put, List.getElem_toArray, List.getElem_cons_succ, List.getElem_cons_zero, List.setIfInBounds_toArray, List.set_cons_zero, List.set_cons_succ]
    refine wpAnyH_take (i := 4) (oi := _) (v := .string ⟨S.toArray⟩) rfl (by kernel_rfl) (by kernel_rfl) (by kernel_rfl) (fun _ _ _ h => h) (Or.inl ⟨by rfl, ?_⟩) (by assumption) ?_
    · intro W hSw
      try dsimp only at hSw
      go_simp
    try simp only [Act.put, List.getElem_toArray, List.getElem_cons_succ, List.getElem_cons_zero, List.setIfInBounds_toArray, List.set_cons_zero, List.set_cons_succ]
    refine wpAnyH_take (i := 5) (oi := _) (v := .string ⟨T.toArray⟩) rfl (by kernel_rfl) (by kernel_rfl) (by kernel_rfl) (fun _ _ _ h => h) (Or.inl ⟨by rfl, ?_⟩) (by assumption) ?_
    · intro W hSw
      try dsimp only at hSw
      go_simp
    try simp only [Act.put, List.getElem_toArray, List.getElem_cons_succ, List.getElem_cons_zero, List.setIfInBounds_toArray, List.set_cons_zero, List.set_cons_succ]
    refine wpAnyH_done (by kernel_rfl) ?_ _
    go_wp2_with fail
    go_meet
    exact ⟨rfl, rfl, hb⟩
  case rest =>
  obtain ⟨rfl, rfl, hb5⟩ := hcut
  rename World => w5
  have HB5 := hid hb5
  clear hb5 HB4
  go_upto_region 4 with fail
  go_cut [42] (fun s wx => s = .bool false ∧ Below W3.heap.size W3 wx)
  case first =>
    have H0 := HB5.out.drew
    have e1 : (S != S) = false := by simp
    have e2 : (T != T) = false := by simp
    have e3 : (X != X) = false := by simp
    refine wp_region_held_drew (S := fun W => W.rangeAt w.heap.size 0 (ML A a) ∧ W.rangeAt g1 0 (ML B b) ∧ W.rangeAt g2 0 (BL x xa n xc)) (by kernel_rfl) (HS.out _ H0) (fun hHeld => ?_)
    refine wpAnyH_take (i := 0) (oi := _) (v := .string ⟨S.toArray⟩) rfl (by kernel_rfl) (by kernel_rfl) (by kernel_rfl) (fun _ _ _ h => h) (Or.inl ⟨by rfl, ?_⟩) (by assumption) ?_
    · intro W hSw
      try dsimp only at hSw
      go_simp
    try simp only [Act.put, List.getElem_toArray, List.getElem_cons_succ, List.getElem_cons_zero, List.setIfInBounds_toArray, List.set_cons_zero, List.set_cons_succ]
    refine wpAnyH_take (i := 1) (oi := _) (v := .agg (ML A a).toArray) rfl (by kernel_rfl) (by kernel_rfl) (by kernel_rfl) (fun _ _ _ h => h) ((yieldsIf_load_mid (by rfl) 37 _ rfl w.heap.size 0 rfl (ML A a) _ (fun W h => h.1) Tryz.underlying37 rfl (infoML A a))) (by assumption) ?_
    try simp only [Act.put, List.getElem_toArray, List.getElem_cons_succ, List.getElem_cons_zero, List.setIfInBounds_toArray, List.set_cons_zero, List.set_cons_succ]
    refine wpAnyH_ready (rs := [2]) (by kernel_rfl) (by simp) ?_
    refine AllReadyH.cons (o := _) rfl (fun K hK => ?_) AllReadyH.nil
    go_simp
    (with_reducible refine (RA.out _ H0).mono ?_)
    rintro e wa ⟨rfl, ha⟩
    refine hK.out _ _ (HS.out _ ha) (fun hHeld => ?_)
    clear hK K
    try simp only [Act.put, List.getElem_toArray, List.getElem_cons_succ, List.getElem_cons_zero, List.setIfInBounds_toArray, List.set_cons_zero, List.set_cons_succ]
    refine wpAnyH_take (i := 3) (oi := _) (v := .bool false) rfl (by kernel_rfl) (by kernel_rfl) (by kernel_rfl) (fun _ _ _ h => h) (Or.inl ⟨by rfl, ?_⟩) (by assumption) ?_
    · intro W hSw
      try dsimp only at hSw
      go_simp
    try simp only [Act.put, List.getElem_toArray, List.getElem_cons_succ, List.getElem_cons_zero, List.setIfInBounds_toArray, List.set_cons_zero, List.set_cons_succ]
    refine wpAnyH_take (i := 4) (oi := _) (v := .bool false) rfl (by kernel_rfl) (by kernel_rfl) (by kernel_rfl) (fun _ _ _ h => h) (Or.inl ⟨by rfl, ?_⟩) (by assumption) ?_
    · intro W hSw
      try dsimp only at hSw
      go_simp
    try simp only [Act.put, List.getElem_toArray, List.getElem_cons_succ, List.getElem_cons_zero, List.setIfInBounds_toArray, List.set_cons_zero, List.set_cons_succ]
    refine wpAnyH_take (i := 5) (oi := _) (v := .string ⟨T.toArray⟩) rfl (by kernel_rfl) (by kernel_rfl) (by kernel_rfl) (fun _ _ _ h => h) (Or.inl ⟨by rfl, ?_⟩) (by assumption) ?_
    · intro W hSw
      try dsimp only at hSw
      go_simp
    try simp only [Act.put, List.getElem_toArray, List.getElem_cons_succ, List.getElem_cons_zero, List.setIfInBounds_toArray, List.set_cons_zero, List.set_cons_succ]
    refine wpAnyH_take (i := 6) (oi := _) (v := .agg (ML B b).toArray) rfl (by kernel_rfl) (by kernel_rfl) (by kernel_rfl) (fun _ _ _ h => h) ((yieldsIf_load_mid (by rfl) 37 _ rfl g1 0 rfl (ML B b) _ (fun W h => h.2.1) Tryz.underlying37 rfl (infoML B b))) (by assumption) ?_
    try simp only [Act.put, List.getElem_toArray, List.getElem_cons_succ, List.getElem_cons_zero, List.setIfInBounds_toArray, List.set_cons_zero, List.set_cons_succ]
    refine wpAnyH_ready (rs := [7]) (by kernel_rfl) (by simp) ?_
    refine AllReadyH.cons (o := _) rfl (fun K hK => ?_) AllReadyH.nil
    go_simp
    (with_reducible refine (RB.out _ ha).mono ?_)
    rintro e wb ⟨rfl, hb⟩
    refine hK.out _ _ (HS.out _ hb) (fun hHeld => ?_)
    clear hK K
    try simp only [Act.put, List.getElem_toArray, List.getElem_cons_succ, List.getElem_cons_zero, List.setIfInBounds_toArray, List.set_cons_zero, List.set_cons_succ]
    refine wpAnyH_take (i := 8) (oi := _) (v := .bool false) rfl (by kernel_rfl) (by kernel_rfl) (by kernel_rfl) (fun _ _ _ h => h) (Or.inl ⟨by rfl, ?_⟩) (by assumption) ?_
    · intro W hSw
      try dsimp only at hSw
      go_simp
    try simp only [Act.put, List.getElem_toArray, List.getElem_cons_succ, List.getElem_cons_zero, List.setIfInBounds_toArray, List.set_cons_zero, List.set_cons_succ]
    refine wpAnyH_take (i := 9) (oi := _) (v := .bool false) rfl (by kernel_rfl) (by kernel_rfl) (by kernel_rfl) (fun _ _ _ h => h) (Or.inl ⟨by rfl, ?_⟩) (by assumption) ?_
    · intro W hSw
      try dsimp only at hSw
      go_simp
    try simp only [Act.put, List.getElem_toArray, List.getElem_cons_succ, List.getElem_cons_zero, List.setIfInBounds_toArray, List.set_cons_zero, List.set_cons_succ]
    refine wpAnyH_take (i := 10) (oi := _) (v := .bool false) rfl (by kernel_rfl) (by kernel_rfl) (by kernel_rfl) (fun _ _ _ h => h) (Or.inl ⟨by rfl, ?_⟩) (by assumption) ?_
    · intro W hSw
      try dsimp only at hSw
      go_simp
    try simp only [Act.put, List.getElem_toArray, List.getElem_cons_succ, List.getElem_cons_zero, List.setIfInBounds_toArray, List.set_cons_zero, List.set_cons_succ]
    refine wpAnyH_take (i := 11) (oi := _) (v := .agg (BL x xa n xc).toArray) rfl (by kernel_rfl) (by kernel_rfl) (by kernel_rfl) (fun _ _ _ h => h) ((yieldsIf_load_mid (by rfl) 39 _ rfl g2 0 rfl (BL x xa n xc) _ (fun W h => h.2.2) Tryz.underlying39 rfl infoBtT)) (by assumption) ?_
    try simp only [Act.put, List.getElem_toArray, List.getElem_cons_succ, List.getElem_cons_zero, List.setIfInBounds_toArray, List.set_cons_zero, List.set_cons_succ]
    refine wpAnyH_take (i := 13) (oi := _) (v := .agg (BL x xa n xc).toArray) rfl (by kernel_rfl) (by kernel_rfl) (by kernel_rfl) (fun _ _ _ h => h) ((yieldsIf_load_mid (by rfl) 39 _ rfl g2 0 rfl (BL x xa n xc) _ (fun W h => h.2.2) Tryz.underlying39 rfl infoBtT)) (by assumption) ?_
    try simp only [Act.put, List.getElem_toArray, List.getElem_cons_succ, List.getElem_cons_zero, List.setIfInBounds_toArray, List.set_cons_zero, List.set_cons_succ]
    refine wpAnyH_ready (rs := [12]) (by kernel_rfl) (by simp) ?_
    refine AllReadyH.cons (o := _) rfl (fun K hK => ?_) AllReadyH.nil
    go_simp
    (with_reducible refine (BA.out _ hb).mono ?_)
    rintro e wc ⟨rfl, hc⟩
    refine hK.out _ _ (HS.out _ hc) (fun hHeld => ?_)
    clear hK K
    try simp only [Act.put, List.getElem_toArray, List.getElem_cons_succ, List.getElem_cons_zero, List.setIfInBounds_toArray, List.set_cons_zero, List.set_cons_succ]
    refine wpAnyH_ready (rs := [14]) (by kernel_rfl) (by simp) ?_
    refine AllReadyH.cons (o := _) rfl (fun K hK => ?_) AllReadyH.nil
    go_simp
    (with_reducible refine (BR.out _ hc).mono ?_)
    rintro e wd ⟨rfl, hd⟩
    refine hK.out _ _ (HS.out _ hd) (fun hHeld => ?_)
    clear hK K
    try simp only [Act.put, List.getElem_toArray, List.getElem_cons_succ, List.getElem_cons_zero, List.setIfInBounds_toArray, List.set_cons_zero, List.set_cons_succ]
    refine wpAnyH_take (i := 15) (oi := _) (v := .bool false) rfl (by kernel_rfl) (by kernel_rfl) (by kernel_rfl) (fun _ _ _ h => h) (Or.inl ⟨by rfl, ?_⟩) (by assumption) ?_
    · intro W hSw
      try dsimp only at hSw
      go_simp
    try simp only [Act.put, List.getElem_toArray, List.getElem_cons_succ, List.getElem_cons_zero, List.setIfInBounds_toArray, List.set_cons_zero, List.set_cons_succ]
    refine wpAnyH_take (i := 16) (oi := _) (v := .bool false) rfl (by kernel_rfl) (by kernel_rfl) (by kernel_rfl) (fun _ _ _ h => h) (Or.inl ⟨by rfl, ?_⟩) (by assumption) ?_
    · intro W hSw
      try dsimp only at hSw
      go_simp
    try simp only [Act.put, List.getElem_toArray, List.getElem_cons_succ, List.getElem_cons_zero, List.setIfInBounds_toArray, List.set_cons_zero, List.set_cons_succ]
    refine wpAnyH_done (by kernel_rfl) ?_ _
    go_wp2_with fail
    go_meet
    exact ⟨rfl, hd⟩
  case rest =>
  obtain ⟨rfl, hb6⟩ := hcut
  rename World => w6
  obtain ⟨xA6, xB6, -⟩ := HX.out _ hb6
  have HB6 := hid hb6
  clear hb6 HB5
  by_cases hst : S = T
  case neg =>
    have u1 : (S != T) = true := by simpa using hst
    have u2 : (S == T) = false := by simpa using hst
    clear hst PL
    go_wp2_with (first
      | (go_at_call 6; (with_reducible refine (AW.out _ HB6.out).mono ?_); rintro e w9 ⟨rfl, hb9⟩))
    go_ret
    exact ⟨rfl, HB3.out.trans (hb9.mono HB3.out.size)⟩
  have PL2 := hid (PL.out hst)
  by_cases hq : S = [63]
  case pos =>
    have u1 : (S != T) = false := by simp [hst]
    have u2 : (S == T) = true := by simp [hst]
    have u3 : (S == [63]) = true := by simp [hq]
    have HST := hid hst
    have HQ := hid hq
    clear hst hq PL PL2
    go_wp2_with (first
      | (go_at_call 6; (with_reducible refine (AW.out _ HB6.out).mono ?_); rintro e w9 ⟨rfl, hb9⟩))
    go_ret
    exact ⟨rfl, HB3.out.trans (hb9.mono HB3.out.size)⟩
  have hsm := PL2.out hq
  subst hsm
  have u1 : (S != T) = false := by simp [hst]
  have u2 : (S == T) = true := by simp [hst]
  have u3 : (S == [63]) = false := by simpa using hq
  have HST := hid hst
  clear hst hq PL PL2
  go_wp2_with (first
    | (refine wpList_loadMw xA6 (by rfl) rfl rfl ?_)
    | (refine wpList_loadMw xB6 (by rfl) rfl rfl ?_)
    | (go_at_call 11; (with_reducible refine (SM.out _ HB6.out).mono ?_); rintro e w7 ⟨rfl, hb7⟩)
    | (go_at_call 6; (with_reducible refine (AW.out _ hb7).mono ?_); rintro e w9 ⟨rfl, hb9⟩))
  go_ret
  exact ⟨rfl, HB3.out.trans (hb9.mono HB3.out.size)⟩
end Go.Proofs.YtppapeoainafbaaGreatDoor

