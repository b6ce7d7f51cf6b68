/- Parts of the proof: X65. -/
import Derived.Test.YtppapeoainafbaaGreatDoorX62a
namespace Go.Proofs.YtppapeoainafbaaGreatDoor
open Go.RowKit
/-! ### msg.Check -/
/-- what the walk needs of a message -/
structure MsgS (m : MsgD) : Prop where
  csum : lens m.c.v.ls ≤ 549755813888
  vsum : lens m.v.ls ≤ 549755813888
  cwf : WfPids m.c.v.ms
  vwf : WfPids m.v.ms
  fr : okP m.c.fr
  who : okP m.who
  b : okP m.b.2
  a : okP m.a.2
def o1B (m : MsgD) : Bool := decide (flN m.kind ≠ 0) && (sameM m (onlyM m) && (decide (m.vw ≤ 4611686018427387904 ∧ m.sl ≤ 4611686018427387904 ∧ m.num ≤ 4611686018427387904) && (decide (0 ≤ m.hops ∧ m.hops ≤ 4) && decide (m.y.length ≤ 200))))
def o2B (m : MsgD) : Bool := (!hb m.kind 0 || mayP m.who) && (!hb m.kind 3 || mayP m.b.2)
def o3B (m : MsgD) : Bool := !m.has || (mayP m.a.2 && decide (cmdChk m.c = 0))
def o4B (m : MsgD) : Bool := (!hb m.kind 7 || decide (cmdChk m.c = 0)) && (!hb m.kind 8 || refCheckB m.v)
theorem ret_val {a b : Bool} (h : a = b) : Value.bool a = .bool b := by rw [h]
theorem msgChk_o (m : MsgD) : msgChk m = (o1B m && (o2B m && (o3B m && o4B m))) := by
  unfold msgChk o1B o2B o3B o4B
  simp only [Bool.and_assoc]
def chkE (b : Bool) : Int := if b then 0 else 1
set_option maxRecDepth 100000 in
set_option maxHeartbeats 12800000 in
theorem msgCheck_any {A : MA} {m : MsgD} {w : World} (hA : MsgR w A m) (hs : MsgS m) :
    Calls Tryz.prog 23 #[.agg (ML A m).toArray] w fun e w' => e = .returned (.int .i64 (chkE (msgChk m))) ∧ Below w.heap.size w w' := by
  obtain ⟨W1, hW1⟩ : ∃ W1, w.alloc (.cells (ML A m).toArray 37) = W1 := ⟨_, rfl⟩
  have hB1 : Below w.heap.size w W1 := by rw [← hW1]; exact (Below.refl _ _).alloc (Nat.le_refl _) _
  have xA : MsgBox W1 w.heap.size A m := by rw [← hW1]; exact MsgBox.made A m w _ _
  have HX : Hid (∀ W, Below W1.heap.size W1 W → MsgBox W w.heap.size A m) := hid fun W h => xA.ext h xA.lt
  have hA1 := hA.ext hB1
  have HA := hid hA1
  have HB1 := hid hB1
  have HSM := hid hs
  obtain ⟨f, hf⟩ : ∃ f, flN m.kind = f := ⟨_, rfl⟩
  have HF := hid hf
  have FL := hid (fields_any m.kind W1)
  rw [hf] at FL
  obtain ⟨r0, hr0⟩ : ∃ r, hb m.kind 0 = r := ⟨_, rfl⟩
  obtain ⟨r3, hr3⟩ : ∃ r, hb m.kind 3 = r := ⟨_, rfl⟩
  obtain ⟨r7, hr7⟩ : ∃ r, hb m.kind 7 = r := ⟨_, rfl⟩
  obtain ⟨r8, hr8⟩ : ∃ r, hb m.kind 8 = r := ⟨_, rfl⟩
  have HR0 := hid hr0
  have HR3 := hid hr3
  have HR7 := hid hr7
  have HR8 := hid hr8
  have a0 : W1.cell? ⟨w.heap.size, 0, none⟩ = some (.int .i64 m.kind) := xA.cell rfl
  have H1 := Below.refl W1.heap.size W1
  clear hA hA1 hB1 xA hf hr0 hr3 hr7 hr8 hs
  go_enter Tryz.func23, Tryz.ntmps23
  go_upto_region 2 with ((go_at_call 24; (with_reducible refine FL.out.mono ?_); rintro e wz ⟨rfl, rfl⟩))
  clear a0 FL
  obtain ⟨o1, ho1⟩ : ∃ o, o1B m = o := ⟨_, rfl⟩
  have HO1 := hid ho1
  clear ho1
  go_cut [4] (fun s wx => s = .bool o1 ∧ Below W1.heap.size W1 wx)
  case first =>
    have ON : Hid (∀ W, Below W1.heap.size W1 W → Calls Tryz.prog 75 #[.agg (ML A m).toArray] W fun e w' => e = .returned (.agg (ML (selA A m 10) (onlyM m)).toArray) ∧ Below W1.heap.size W1 w') := hid fun W h => relB h only_any
    obtain ⟨r, hr⟩ : ∃ r, sameM m (onlyM m) = r := ⟨_, rfl⟩
    have SM : Hid (∀ W, Below W1.heap.size W1 W → Calls Tryz.prog 74 #[.agg (ML A m).toArray, .agg (ML (selA A m 10) (onlyM m)).toArray] W fun e w' => e = .returned (.bool r) ∧ Below W1.heap.size W1 w') := hid fun W h => relB h (by rw [← hr]; exact msgSame_any (HA.out.ext h) (HA.out.ext h).only)
    have HS : Hid (∀ W, Below W1.heap.size W1 W → W.rangeAt w.heap.size 0 (ML A m) ∧ W.cell? ⟨w.heap.size, 3, none⟩ = some (.int .u64 m.vw) ∧ W.cell? ⟨w.heap.size, 4, none⟩ = some (.int .u64 m.sl) ∧ W.cell? ⟨w.heap.size, 5, none⟩ = some (.int .u64 m.num) ∧ W.cell? ⟨w.heap.size, 6, none⟩ = some (.int .i64 m.hops) ∧ W.cell? ⟨w.heap.size, 28, none⟩ = some (.slice A.ya m.y.length A.yc)) := hid fun W h => ⟨HX.out W h, (HX.out W h).cell rfl, (HX.out W h).cell rfl, (HX.out W h).cell rfl, (HX.out W h).cell rfl, (HX.out W h).cell rfl⟩
    have HR := hid hr
    have H0 : Below W1.heap.size W1 W1.drew := (Below.refl _ _).drew
    clear hr
    refine wp_region_held_drew (S := fun W => W.rangeAt w.heap.size 0 (ML A m) ∧ W.cell? ⟨w.heap.size, 3, none⟩ = some (.int .u64 m.vw) ∧ W.cell? ⟨w.heap.size, 4, none⟩ = some (.int .u64 m.sl) ∧ W.cell? ⟨w.heap.size, 5, none⟩ = some (.int .u64 m.num) ∧ W.cell? ⟨w.heap.size, 6, none⟩ = some (.int .i64 m.hops) ∧ W.cell? ⟨w.heap.size, 28, none⟩ = some (.slice A.ya m.y.length A.yc)) (by kernel_rfl) (HS.out _ H0) (fun hHeld => ?_)
    refine wpAnyH_take (i := 0) (oi := _) (v := .int .u64 f) rfl (by kernel_rfl) (by kernel_rfl) (by kernel_rfl) (fun _ _ _ h => h) (Or.inl ⟨by rfl, ?_⟩) (by assumption) ?_
    · intro W hSw
      try dsimp only at hSw
      go_simp
    try simp only [Act.put, List.getElem_toArray, List.getElem_cons_zero, List.setIfInBounds_toArray, List.set_cons_zero, List.set_cons_succ]
    by_cases hf0 : f = 0
    · have b1 : ((f : Int) != 0) = false := by simp only [bne_eq_false_iff_eq]; omega
      have HF0 := hid hf0
      clear hf0
      refine wpAnyH_take (i := 1) (oi := _) (v := .bool false) rfl (by kernel_rfl) (by kernel_rfl) (by kernel_rfl) (fun _ _ _ h => h) (Or.inl ⟨by rfl, ?_⟩) (by assumption) ?_
      · intro W hSw
        try dsimp only at hSw
        go_simp
      try simp only [Act.put, List.getElem_toArray, List.getElem_cons_succ, List.getElem_cons_zero, List.setIfInBounds_toArray, List.set_cons_zero, List.set_cons_succ]
      refine wpAnyH_take (i := 2) (oi := _) (v := .bool false) rfl (by kernel_rfl) (by kernel_rfl) (by kernel_rfl) (fun _ _ _ h => h) (Or.inl ⟨by rfl, ?_⟩) (by assumption) ?_
      · intro W hSw
        try dsimp only at hSw
        go_simp
      try simp only [Act.put, List.getElem_toArray, List.getElem_cons_succ, List.getElem_cons_zero, List.setIfInBounds_toArray, List.set_cons_zero, List.set_cons_succ]
      refine wpAnyH_take (i := 3) (oi := _) (v := undef) rfl (by kernel_rfl) (by kernel_rfl) (by kernel_rfl) (fun _ _ _ h => h) (Or.inr ⟨by rfl, rfl⟩) (by assumption) ?_
      try simp only [Act.put, List.getElem_toArray, List.getElem_cons_succ, List.getElem_cons_zero, List.setIfInBounds_toArray, List.set_cons_zero, List.set_cons_succ]
      refine wpAnyH_take (i := 4) (oi := _) (v := undef) rfl (by kernel_rfl) (by kernel_rfl) (by kernel_rfl) (fun _ _ _ h => h) (Or.inr ⟨by rfl, rfl⟩) (by assumption) ?_
      try simp only [Act.put, List.getElem_toArray, List.getElem_cons_succ, List.getElem_cons_zero, List.setIfInBounds_toArray, List.set_cons_zero, List.set_cons_succ]
      refine wpAnyH_take (i := 5) (oi := _) (v := undef) rfl (by kernel_rfl) (by kernel_rfl) (by kernel_rfl) (fun _ _ _ h => h) (Or.inr ⟨by rfl, rfl⟩) (by assumption) ?_
      try simp only [Act.put, List.getElem_toArray, List.getElem_cons_succ, List.getElem_cons_zero, List.setIfInBounds_toArray, List.set_cons_zero, List.set_cons_succ]
      refine wpAnyH_take (i := 6) (oi := _) (v := undef) rfl (by kernel_rfl) (by kernel_rfl) (by kernel_rfl) (fun _ _ _ h => h) (Or.inr ⟨by rfl, rfl⟩) (by assumption) ?_
      try simp only [Act.put, List.getElem_toArray, List.getElem_cons_succ, List.getElem_cons_zero, List.setIfInBounds_toArray, List.set_cons_zero, List.set_cons_succ]
      refine wpAnyH_take (i := 7) (oi := _) (v := .bool false) rfl (by kernel_rfl) (by kernel_rfl) (by kernel_rfl) (fun _ _ _ h => h) (Or.inl ⟨by rfl, ?_⟩) (by assumption) ?_
      · intro W hSw
        try dsimp only at hSw
        go_simp
      try simp only [Act.put, List.getElem_toArray, List.getElem_cons_succ, List.getElem_cons_zero, List.setIfInBounds_toArray, List.set_cons_zero, List.set_cons_succ]
      refine wpAnyH_take (i := 8) (oi := _) (v := .bool false) rfl (by kernel_rfl) (by kernel_rfl) (by kernel_rfl) (fun _ _ _ h => h) (Or.inl ⟨by rfl, ?_⟩) (by assumption) ?_
      · intro W hSw
        try dsimp only at hSw
        go_simp
      try simp only [Act.put, List.getElem_toArray, List.getElem_cons_succ, List.getElem_cons_zero, List.setIfInBounds_toArray, List.set_cons_zero, List.set_cons_succ]
      refine wpAnyH_take (i := 9) (oi := _) (v := undef) rfl (by kernel_rfl) (by kernel_rfl) (by kernel_rfl) (fun _ _ _ h => h) (Or.inr ⟨by rfl, rfl⟩) (by assumption) ?_
      try simp only [Act.put, List.getElem_toArray, List.getElem_cons_succ, List.getElem_cons_zero, List.setIfInBounds_toArray, List.set_cons_zero, List.set_cons_succ]
      refine wpAnyH_take (i := 10) (oi := _) (v := undef) rfl (by kernel_rfl) (by kernel_rfl) (by kernel_rfl) (fun _ _ _ h => h) (Or.inr ⟨by rfl, rfl⟩) (by assumption) ?_
      try simp only [Act.put, List.getElem_toArray, List.getElem_cons_succ, List.getElem_cons_zero, List.setIfInBounds_toArray, List.set_cons_zero, List.set_cons_succ]
      refine wpAnyH_take (i := 11) (oi := _) (v := undef) rfl (by kernel_rfl) (by kernel_rfl) (by kernel_rfl) (fun _ _ _ h => h) (Or.inr ⟨by rfl, rfl⟩) (by assumption) ?_
      try simp only [Act.put, List.getElem_toArray, List.getElem_cons_succ, List.getElem_cons_zero, List.setIfInBounds_toArray, List.set_cons_zero, List.set_cons_succ]
      refine wpAnyH_take (i := 12) (oi := _) (v := undef) rfl (by kernel_rfl) (by kernel_rfl) (by kernel_rfl) (fun _ _ _ h => h) (Or.inr ⟨by rfl, rfl⟩) (by assumption) ?_
      try simp only [Act.put, List.getElem_toArray, List.getElem_cons_succ, List.getElem_cons_zero, List.setIfInBounds_toArray, List.set_cons_zero, List.set_cons_succ]
      refine wpAnyH_take (i := 13) (oi := _) (v := undef) rfl (by kernel_rfl) (by kernel_rfl) (by kernel_rfl) (fun _ _ _ h => h) (Or.inr ⟨by rfl, rfl⟩) (by assumption) ?_
      try simp only [Act.put, List.getElem_toArray, List.getElem_cons_succ, List.getElem_cons_zero, List.setIfInBounds_toArray, List.set_cons_zero, List.set_cons_succ]
      refine wpAnyH_take (i := 14) (oi := _) (v := undef) rfl (by kernel_rfl) (by kernel_rfl) (by kernel_rfl) (fun _ _ _ h => h) (Or.inr ⟨by rfl, rfl⟩) (by assumption) ?_
      try simp only [Act.put, List.getElem_toArray, List.getElem_cons_succ, List.getElem_cons_zero, List.setIfInBounds_toArray, List.set_cons_zero, List.set_cons_succ]
      refine wpAnyH_take (i := 15) (oi := _) (v := undef) rfl (by kernel_rfl) (by kernel_rfl) (by kernel_rfl) (fun _ _ _ h => h) (Or.inr ⟨by rfl, rfl⟩) (by assumption) ?_
      try simp only [Act.put, List.getElem_toArray, List.getElem_cons_succ, List.getElem_cons_zero, List.setIfInBounds_toArray, List.set_cons_zero, List.set_cons_succ]
      refine wpAnyH_take (i := 16) (oi := _) (v := undef) rfl (by kernel_rfl) (by kernel_rfl) (by kernel_rfl) (fun _ _ _ h => h) (Or.inr ⟨by rfl, rfl⟩) (by assumption) ?_
      try simp only [Act.put, List.getElem_toArray, List.getElem_cons_succ, List.getElem_cons_zero, List.setIfInBounds_toArray, List.set_cons_zero, List.set_cons_succ]
      refine wpAnyH_take (i := 17) (oi := _) (v := .bool false) rfl (by kernel_rfl) (by kernel_rfl) (by kernel_rfl) (fun _ _ _ h => h) (Or.inl ⟨by rfl, ?_⟩) (by assumption) ?_
      · intro W hSw
        try dsimp only at hSw
        go_simp
      try simp only [Act.put, List.getElem_toArray, List.getElem_cons_succ, List.getElem_cons_zero, List.setIfInBounds_toArray, List.set_cons_zero, List.set_cons_succ]
      refine wpAnyH_take (i := 18) (oi := _) (v := .bool false) rfl (by kernel_rfl) (by kernel_rfl) (by kernel_rfl) (fun _ _ _ h => h) (Or.inl ⟨by rfl, ?_⟩) (by assumption) ?_
      · intro W hSw
        try dsimp only at hSw
        go_simp
      try simp only [Act.put, List.getElem_toArray, List.getElem_cons_succ, List.getElem_cons_zero, List.setIfInBounds_toArray, List.set_cons_zero, List.set_cons_succ]
      refine wpAnyH_take (i := 19) (oi := _) (v := undef) rfl (by kernel_rfl) (by kernel_rfl) (by kernel_rfl) (fun _ _ _ h => h) (Or.inr ⟨by rfl, rfl⟩) (by assumption) ?_
      try simp only [Act.put, List.getElem_toArray, List.getElem_cons_succ, List.getElem_cons_zero, List.setIfInBounds_toArray, List.set_cons_zero, List.set_cons_succ]
      refine wpAnyH_take (i := 20) (oi := _) (v := undef) rfl (by kernel_rfl) (by kernel_rfl) (by kernel_rfl) (fun _ _ _ h => h) (Or.inr ⟨by rfl, rfl⟩) (by assumption) ?_
      try simp only [Act.put, List.getElem_toArray, List.getElem_cons_succ, List.getElem_cons_zero, List.setIfInBounds_toArray, List.set_cons_zero, List.set_cons_succ]
      refine wpAnyH_take (i := 21) (oi := _) (v := undef) rfl (by kernel_rfl) (by kernel_rfl) (by kernel_rfl) (fun _ _ _ h => h) (Or.inr ⟨by rfl, rfl⟩) (by assumption) ?_
      try simp only [Act.put, List.getElem_toArray, List.getElem_cons_succ, List.getElem_cons_zero, List.setIfInBounds_toArray, List.set_cons_zero, List.set_cons_succ]
      refine wpAnyH_take (i := 22) (oi := _) (v := .bool false) rfl (by kernel_rfl) (by kernel_rfl) (by kernel_rfl) (fun _ _ _ h => h) (Or.inl ⟨by rfl, ?_⟩) (by assumption) ?_
      · intro W hSw
        try dsimp only at hSw
        go_simp
      try simp only [Act.put, List.getElem_toArray, List.getElem_cons_succ, List.getElem_cons_zero, List.setIfInBounds_toArray, List.set_cons_zero, List.set_cons_succ]
      refine wpAnyH_take (i := 23) (oi := _) (v := .bool false) rfl (by kernel_rfl) (by kernel_rfl) (by kernel_rfl) (fun _ _ _ h => h) (Or.inl ⟨by rfl, ?_⟩) (by assumption) ?_
      · intro W hSw
        try dsimp only at hSw
        go_simp
      try simp only [Act.put, List.getElem_toArray, List.getElem_cons_succ, List.getElem_cons_zero, List.setIfInBounds_toArray, List.set_cons_zero, List.set_cons_succ]
      refine wpAnyH_take (i := 24) (oi := _) (v := undef) rfl (by kernel_rfl) (by kernel_rfl) (by kernel_rfl) (fun _ _ _ h => h) (Or.inr ⟨by rfl, rfl⟩) (by assumption) ?_
      try simp only [Act.put, List.getElem_toArray, List.getElem_cons_succ, List.getElem_cons_zero, List.setIfInBounds_toArray, List.set_cons_zero, List.set_cons_succ]
      refine wpAnyH_take (i := 25) (oi := _) (v := undef) rfl (by kernel_rfl) (by kernel_rfl) (by kernel_rfl) (fun _ _ _ h => h) (Or.inr ⟨by rfl, rfl⟩) (by assumption) ?_
      try simp only [Act.put, List.getElem_toArray, List.getElem_cons_succ, List.getElem_cons_zero, List.setIfInBounds_toArray, List.set_cons_zero, List.set_cons_succ]
      refine wpAnyH_take (i := 26) (oi := _) (v := undef) rfl (by kernel_rfl) (by kernel_rfl) (by kernel_rfl) (fun _ _ _ h => h) (Or.inr ⟨by rfl, rfl⟩) (by assumption) ?_
      try simp only [Act.put, List.getElem_toArray, List.getElem_cons_succ, List.getElem_cons_zero, List.setIfInBounds_toArray, List.set_cons_zero, List.set_cons_succ]
      refine wpAnyH_take (i := 27) (oi := _) (v := .bool false) rfl (by kernel_rfl) (by kernel_rfl) (by kernel_rfl) (fun _ _ _ h => h) (Or.inl ⟨by rfl, ?_⟩) (by assumption) ?_
      · intro W hSw
        try dsimp only at hSw
        go_simp
      try simp only [Act.put, List.getElem_toArray, List.getElem_cons_succ, List.getElem_cons_zero, List.setIfInBounds_toArray, List.set_cons_zero, List.set_cons_succ]
      refine wpAnyH_take (i := 28) (oi := _) (v := .bool false) rfl (by kernel_rfl) (by kernel_rfl) (by kernel_rfl) (fun _ _ _ h => h) (Or.inl ⟨by rfl, ?_⟩) (by assumption) ?_
      · intro W hSw
        try dsimp only at hSw
        go_simp
      try simp only [Act.put, List.getElem_toArray, List.getElem_cons_succ, List.getElem_cons_zero, List.setIfInBounds_toArray, List.set_cons_zero, List.set_cons_succ]
      refine wpAnyH_take (i := 29) (oi := _) (v := undef) rfl (by kernel_rfl) (by kernel_rfl) (by kernel_rfl) (fun _ _ _ h => h) (Or.inr ⟨by rfl, rfl⟩) (by assumption) ?_
      try simp only [Act.put, List.getElem_toArray, List.getElem_cons_succ, List.getElem_cons_zero, List.setIfInBounds_toArray, List.set_cons_zero, List.set_cons_succ]
      refine wpAnyH_take (i := 30) (oi := _) (v := undef) rfl (by kernel_rfl) (by kernel_rfl) (by kernel_rfl) (fun _ _ _ h => h) (Or.inr ⟨by rfl, rfl⟩) (by assumption) ?_
      try simp only [Act.put, List.getElem_toArray, List.getElem_cons_succ, List.getElem_cons_zero, List.setIfInBounds_toArray, List.set_cons_zero, List.set_cons_succ]
      refine wpAnyH_take (i := 31) (oi := _) (v := undef) rfl (by kernel_rfl) (by kernel_rfl) (by kernel_rfl) (fun _ _ _ h => h) (Or.inr ⟨by rfl, rfl⟩) (by assumption) ?_
      try simp only [Act.put, List.getElem_toArray, List.getElem_cons_succ, List.getElem_cons_zero, List.setIfInBounds_toArray, List.set_cons_zero, List.set_cons_succ]
      refine wpAnyH_take (i := 32) (oi := _) (v := undef) rfl (by kernel_rfl) (by kernel_rfl) (by kernel_rfl) (fun _ _ _ h => h) (Or.inr ⟨by rfl, rfl⟩) (by assumption) ?_
      try simp only [Act.put, List.getElem_toArray, List.getElem_cons_succ, List.getElem_cons_zero, List.setIfInBounds_toArray, List.set_cons_zero, List.set_cons_succ]
      refine wpAnyH_take (i := 33) (oi := _) (v := .bool false) rfl (by kernel_rfl) (by kernel_rfl) (by kernel_rfl) (fun _ _ _ h => h) (Or.inl ⟨by rfl, ?_⟩) (by assumption) ?_
      · intro W hSw
        try dsimp only at hSw
        go_simp
      try simp only [Act.put, List.getElem_toArray, List.getElem_cons_succ, List.getElem_cons_zero, List.setIfInBounds_toArray, List.set_cons_zero, List.set_cons_succ]
      refine wpAnyH_take (i := 34) (oi := _) (v := .bool false) rfl (by kernel_rfl) (by kernel_rfl) (by kernel_rfl) (fun _ _ _ h => h) (Or.inl ⟨by rfl, ?_⟩) (by assumption) ?_
      · intro W hSw
        try dsimp only at hSw
        go_simp
      try simp only [Act.put, List.getElem_toArray, List.getElem_cons_succ, List.getElem_cons_zero, List.setIfInBounds_toArray, List.set_cons_zero, List.set_cons_succ]
      refine wpAnyH_done (by kernel_rfl) ?_ _
      go_wp2_with fail
      go_meet
      exact ⟨ret_val (by rw [← HO1.out]; unfold o1B; rw [HF.out]; simp [HF0.out]), H0⟩
    · have b1 : ((f : Int) != 0) = true := by simp only [bne_iff_ne, ne_eq]; omega
      have HF0 : Hid (decide (flN m.kind ≠ 0) = true) := hid (by rw [HF.out]; simpa using hf0)
      clear hf0
      refine wpAnyH_take (i := 1) (oi := _) (v := .bool true) rfl (by kernel_rfl) (by kernel_rfl) (by kernel_rfl) (fun _ _ _ h => h) (Or.inl ⟨by rfl, ?_⟩) (by assumption) ?_
      · intro W hSw
        try dsimp only at hSw
        go_simp
      try simp only [Act.put, List.getElem_toArray, List.getElem_cons_succ, List.getElem_cons_zero, List.setIfInBounds_toArray, List.set_cons_zero, List.set_cons_succ]
      refine wpAnyH_take (i := 2) (oi := _) (v := .bool true) rfl (by kernel_rfl) (by kernel_rfl) (by kernel_rfl) (fun _ _ _ h => h) (Or.inl ⟨by rfl, ?_⟩) (by assumption) ?_
      · intro W hSw
        try dsimp only at hSw
        go_simp
      try simp only [Act.put, List.getElem_toArray, List.getElem_cons_succ, List.getElem_cons_zero, List.setIfInBounds_toArray, List.set_cons_zero, List.set_cons_succ]
      refine wpAnyH_take (i := 3) (oi := _) (v := .agg (ML A m).toArray) rfl (by kernel_rfl) (by kernel_rfl) (by kernel_rfl) (fun _ _ _ h => h) ((yieldsIf_load_mid (by rfl) 37 _ rfl w.heap.size 0 rfl (ML A m) _ (fun W h => h.1) Tryz.underlying37 rfl (infoML A m))) (by assumption) ?_
      try simp only [Act.put, List.getElem_toArray, List.getElem_cons_succ, List.getElem_cons_zero, List.setIfInBounds_toArray, List.set_cons_zero, List.set_cons_succ]
      refine wpAnyH_take (i := 4) (oi := _) (v := .agg (ML A m).toArray) rfl (by kernel_rfl) (by kernel_rfl) (by kernel_rfl) (fun _ _ _ h => h) ((yieldsIf_load_mid (by rfl) 37 _ rfl w.heap.size 0 rfl (ML A m) _ (fun W h => h.1) Tryz.underlying37 rfl (infoML A m))) (by assumption) ?_
      try simp only [Act.put, List.getElem_toArray, List.getElem_cons_succ, List.getElem_cons_zero, List.setIfInBounds_toArray, List.set_cons_zero, List.set_cons_succ]
      refine wpAnyH_ready (rs := [5]) (by kernel_rfl) (by simp) ?_
      refine AllReadyH.cons (o := _) rfl (fun K hK => ?_) AllReadyH.nil
      go_simp
      (with_reducible refine (ON.out _ H0).mono ?_)
      rintro e wa ⟨rfl, ha⟩
      refine hK.out _ _ (HS.out _ (ha)) (fun hHeld => ?_)
      clear hK K
      try simp only [Act.put, List.getElem_toArray, List.getElem_cons_succ, List.getElem_cons_zero, List.setIfInBounds_toArray, List.set_cons_zero, List.set_cons_succ]
      refine wpAnyH_ready (rs := [6]) (by kernel_rfl) (by simp) ?_
      refine AllReadyH.cons (o := _) rfl (fun K hK => ?_) AllReadyH.nil
      go_simp
      (with_reducible refine (SM.out _ ha).mono ?_)
      rintro e wb ⟨rfl, hb⟩
      refine hK.out _ _ (HS.out _ (hb)) (fun hHeld => ?_)
      clear hK K
      try simp only [Act.put, List.getElem_toArray, List.getElem_cons_succ, List.getElem_cons_zero, List.setIfInBounds_toArray, List.set_cons_zero, List.set_cons_succ]
      clear ON SM
      cases r
      · refine wpAnyH_take (i := 7) (oi := _) (v := .bool false) rfl (by kernel_rfl) (by kernel_rfl) (by kernel_rfl) (fun _ _ _ h => h) (Or.inl ⟨by rfl, ?_⟩) (by assumption) ?_
        · intro W hSw
          try dsimp only at hSw
          go_simp
        try simp only [Act.put, List.getElem_toArray, List.getElem_cons_succ, List.getElem_cons_zero, List.setIfInBounds_toArray, List.set_cons_zero, List.set_cons_succ]
        refine wpAnyH_take (i := 8) (oi := _) (v := .bool false) rfl (by kernel_rfl) (by kernel_rfl) (by kernel_rfl) (fun _ _ _ h => h) (Or.inl ⟨by rfl, ?_⟩) (by assumption) ?_
        · intro W hSw
          try dsimp only at hSw
          go_simp
        try simp only [Act.put, List.getElem_toArray, List.getElem_cons_succ, List.getElem_cons_zero, List.setIfInBounds_toArray, List.set_cons_zero, List.set_cons_succ]
        refine wpAnyH_take (i := 9) (oi := _) (v := undef) rfl (by kernel_rfl) (by kernel_rfl) (by kernel_rfl) (fun _ _ _ h => h) (Or.inr ⟨by rfl, rfl⟩) (by assumption) ?_
        try simp only [Act.put, List.getElem_toArray, List.getElem_cons_succ, List.getElem_cons_zero, List.setIfInBounds_toArray, List.set_cons_zero, List.set_cons_succ]
        refine wpAnyH_take (i := 10) (oi := _) (v := undef) rfl (by kernel_rfl) (by kernel_rfl) (by kernel_rfl) (fun _ _ _ h => h) (Or.inr ⟨by rfl, rfl⟩) (by assumption) ?_
        try simp only [Act.put, List.getElem_toArray, List.getElem_cons_succ, List.getElem_cons_zero, List.setIfInBounds_toArray, List.set_cons_zero, List.set_cons_succ]
        refine wpAnyH_take (i := 11) (oi := _) (v := undef) rfl (by kernel_rfl) (by kernel_rfl) (by kernel_rfl) (fun _ _ _ h => h) (Or.inr ⟨by rfl, rfl⟩) (by assumption) ?_
        try simp only [Act.put, List.getElem_toArray, List.getElem_cons_succ, List.getElem_cons_zero, List.setIfInBounds_toArray, List.set_cons_zero, List.set_cons_succ]
        refine wpAnyH_take (i := 12) (oi := _) (v := undef) rfl (by kernel_rfl) (by kernel_rfl) (by kernel_rfl) (fun _ _ _ h => h) (Or.inr ⟨by rfl, rfl⟩) (by assumption) ?_
        try simp only [Act.put, List.getElem_toArray, List.getElem_cons_succ, List.getElem_cons_zero, List.setIfInBounds_toArray, List.set_cons_zero, List.set_cons_succ]
        refine wpAnyH_take (i := 13) (oi := _) (v := undef) rfl (by kernel_rfl) (by kernel_rfl) (by kernel_rfl) (fun _ _ _ h => h) (Or.inr ⟨by rfl, rfl⟩) (by assumption) ?_
        try simp only [Act.put, List.getElem_toArray, List.getElem_cons_succ, List.getElem_cons_zero, List.setIfInBounds_toArray, List.set_cons_zero, List.set_cons_succ]
        refine wpAnyH_take (i := 14) (oi := _) (v := undef) rfl (by kernel_rfl) (by kernel_rfl) (by kernel_rfl) (fun _ _ _ h => h) (Or.inr ⟨by rfl, rfl⟩) (by assumption) ?_
        try simp only [Act.put, List.getElem_toArray, List.getElem_cons_succ, List.getElem_cons_zero, List.setIfInBounds_toArray, List.set_cons_zero, List.set_cons_succ]
        refine wpAnyH_take (i := 15) (oi := _) (v := undef) rfl (by kernel_rfl) (by kernel_rfl) (by kernel_rfl) (fun _ _ _ h => h) (Or.inr ⟨by rfl, rfl⟩) (by assumption) ?_
        try simp only [Act.put, List.getElem_toArray, List.getElem_cons_succ, List.getElem_cons_zero, List.setIfInBounds_toArray, List.set_cons_zero, List.set_cons_succ]
        refine wpAnyH_take (i := 16) (oi := _) (v := undef) rfl (by kernel_rfl) (by kernel_rfl) (by kernel_rfl) (fun _ _ _ h => h) (Or.inr ⟨by rfl, rfl⟩) (by assumption) ?_
        try simp only [Act.put, List.getElem_toArray, List.getElem_cons_succ, List.getElem_cons_zero, List.setIfInBounds_toArray, List.set_cons_zero, List.set_cons_succ]
        refine wpAnyH_take (i := 17) (oi := _) (v := .bool false) rfl (by kernel_rfl) (by kernel_rfl) (by kernel_rfl) (fun _ _ _ h => h) (Or.inl ⟨by rfl, ?_⟩) (by assumption) ?_
        · intro W hSw
          try dsimp only at hSw
          go_simp
        try simp only [Act.put, List.getElem_toArray, List.getElem_cons_succ, List.getElem_cons_zero, List.setIfInBounds_toArray, List.set_cons_zero, List.set_cons_succ]
        refine wpAnyH_take (i := 18) (oi := _) (v := .bool false) rfl (by kernel_rfl) (by kernel_rfl) (by kernel_rfl) (fun _ _ _ h => h) (Or.inl ⟨by rfl, ?_⟩) (by assumption) ?_
        · intro W hSw
          try dsimp only at hSw
          go_simp
        try simp only [Act.put, List.getElem_toArray, List.getElem_cons_succ, List.getElem_cons_zero, List.setIfInBounds_toArray, List.set_cons_zero, List.set_cons_succ]
        refine wpAnyH_take (i := 19) (oi := _) (v := undef) rfl (by kernel_rfl) (by kernel_rfl) (by kernel_rfl) (fun _ _ _ h => h) (Or.inr ⟨by rfl, rfl⟩) (by assumption) ?_
        try simp only [Act.put, List.getElem_toArray, List.getElem_cons_succ, List.getElem_cons_zero, List.setIfInBounds_toArray, List.set_cons_zero, List.set_cons_succ]
        refine wpAnyH_take (i := 20) (oi := _) (v := undef) rfl (by kernel_rfl) (by kernel_rfl) (by kernel_rfl) (fun _ _ _ h => h) (Or.inr ⟨by rfl, rfl⟩) (by assumption) ?_
        try simp only [Act.put, List.getElem_toArray, List.getElem_cons_succ, List.getElem_cons_zero, List.setIfInBounds_toArray, List.set_cons_zero, List.set_cons_succ]
        refine wpAnyH_take (i := 21) (oi := _) (v := undef) rfl (by kernel_rfl) (by kernel_rfl) (by kernel_rfl) (fun _ _ _ h => h) (Or.inr ⟨by rfl, rfl⟩) (by assumption) ?_
        try simp only [Act.put, List.getElem_toArray, List.getElem_cons_succ, List.getElem_cons_zero, List.setIfInBounds_toArray, List.set_cons_zero, List.set_cons_succ]
        refine wpAnyH_take (i := 22) (oi := _) (v := .bool false) rfl (by kernel_rfl) (by kernel_rfl) (by kernel_rfl) (fun _ _ _ h => h) (Or.inl ⟨by rfl, ?_⟩) (by assumption) ?_
        · intro W hSw
          try dsimp only at hSw
          go_simp
        try simp only [Act.put, List.getElem_toArray, List.getElem_cons_succ, List.getElem_cons_zero, List.setIfInBounds_toArray, List.set_cons_zero, List.set_cons_succ]
        refine wpAnyH_take (i := 23) (oi := _) (v := .bool false) rfl (by kernel_rfl) (by kernel_rfl) (by kernel_rfl) (fun _ _ _ h => h) (Or.inl ⟨by rfl, ?_⟩) (by assumption) ?_
        · intro W hSw
          try dsimp only at hSw
          go_simp
        try simp only [Act.put, List.getElem_toArray, List.getElem_cons_succ, List.getElem_cons_zero, List.setIfInBounds_toArray, List.set_cons_zero, List.set_cons_succ]
        refine wpAnyH_take (i := 24) (oi := _) (v := undef) rfl (by kernel_rfl) (by kernel_rfl) (by kernel_rfl) (fun _ _ _ h => h) (Or.inr ⟨by rfl, rfl⟩) (by assumption) ?_
        try simp only [Act.put, List.getElem_toArray, List.getElem_cons_succ, List.getElem_cons_zero, List.setIfInBounds_toArray, List.set_cons_zero, List.set_cons_succ]
        refine wpAnyH_take (i := 25) (oi := _) (v := undef) rfl (by kernel_rfl) (by kernel_rfl) (by kernel_rfl) (fun _ _ _ h => h) (Or.inr ⟨by rfl, rfl⟩) (by assumption) ?_
        try simp only [Act.put, List.getElem_toArray, List.getElem_cons_succ, List.getElem_cons_zero, List.setIfInBounds_toArray, List.set_cons_zero, List.set_cons_succ]
        refine wpAnyH_take (i := 26) (oi := _) (v := undef) rfl (by kernel_rfl) (by kernel_rfl) (by kernel_rfl) (fun _ _ _ h => h) (Or.inr ⟨by rfl, rfl⟩) (by assumption) ?_
        try simp only [Act.put, List.getElem_toArray, List.getElem_cons_succ, List.getElem_cons_zero, List.setIfInBounds_toArray, List.set_cons_zero, List.set_cons_succ]
        refine wpAnyH_take (i := 27) (oi := _) (v := .bool false) rfl (by kernel_rfl) (by kernel_rfl) (by kernel_rfl) (fun _ _ _ h => h) (Or.inl ⟨by rfl, ?_⟩) (by assumption) ?_
        · intro W hSw
          try dsimp only at hSw
          go_simp
        try simp only [Act.put, List.getElem_toArray, List.getElem_cons_succ, List.getElem_cons_zero, List.setIfInBounds_toArray, List.set_cons_zero, List.set_cons_succ]
        refine wpAnyH_take (i := 28) (oi := _) (v := .bool false) rfl (by kernel_rfl) (by kernel_rfl) (by kernel_rfl) (fun _ _ _ h => h) (Or.inl ⟨by rfl, ?_⟩) (by assumption) ?_
        · intro W hSw
          try dsimp only at hSw
          go_simp
        try simp only [Act.put, List.getElem_toArray, List.getElem_cons_succ, List.getElem_cons_zero, List.setIfInBounds_toArray, List.set_cons_zero, List.set_cons_succ]
        refine wpAnyH_take (i := 29) (oi := _) (v := undef) rfl (by kernel_rfl) (by kernel_rfl) (by kernel_rfl) (fun _ _ _ h => h) (Or.inr ⟨by rfl, rfl⟩) (by assumption) ?_
        try simp only [Act.put, List.getElem_toArray, List.getElem_cons_succ, List.getElem_cons_zero, List.setIfInBounds_toArray, List.set_cons_zero, List.set_cons_succ]
        refine wpAnyH_take (i := 30) (oi := _) (v := undef) rfl (by kernel_rfl) (by kernel_rfl) (by kernel_rfl) (fun _ _ _ h => h) (Or.inr ⟨by rfl, rfl⟩) (by assumption) ?_
        try simp only [Act.put, List.getElem_toArray, List.getElem_cons_succ, List.getElem_cons_zero, List.setIfInBounds_toArray, List.set_cons_zero, List.set_cons_succ]
        refine wpAnyH_take (i := 31) (oi := _) (v := undef) rfl (by kernel_rfl) (by kernel_rfl) (by kernel_rfl) (fun _ _ _ h => h) (Or.inr ⟨by rfl, rfl⟩) (by assumption) ?_
        try simp only [Act.put, List.getElem_toArray, List.getElem_cons_succ, List.getElem_cons_zero, List.setIfInBounds_toArray, List.set_cons_zero, List.set_cons_succ]
        refine wpAnyH_take (i := 32) (oi := _) (v := undef) rfl (by kernel_rfl) (by kernel_rfl) (by kernel_rfl) (fun _ _ _ h => h) (Or.inr ⟨by rfl, rfl⟩) (by assumption) ?_
        try simp only [Act.put, List.getElem_toArray, List.getElem_cons_succ, List.getElem_cons_zero, List.setIfInBounds_toArray, List.set_cons_zero, List.set_cons_succ]
        refine wpAnyH_take (i := 33) (oi := _) (v := .bool false) rfl (by kernel_rfl) (by kernel_rfl) (by kernel_rfl) (fun _ _ _ h => h) (Or.inl ⟨by rfl, ?_⟩) (by assumption) ?_
        · intro W hSw
          try dsimp only at hSw
          go_simp
        try simp only [Act.put, List.getElem_toArray, List.getElem_cons_succ, List.getElem_cons_zero, List.setIfInBounds_toArray, List.set_cons_zero, List.set_cons_succ]
        refine wpAnyH_take (i := 34) (oi := _) (v := .bool false) rfl (by kernel_rfl) (by kernel_rfl) (by kernel_rfl) (fun _ _ _ h => h) (Or.inl ⟨by rfl, ?_⟩) (by assumption) ?_
        · intro W hSw
          try dsimp only at hSw
          go_simp
        try simp only [Act.put, List.getElem_toArray, List.getElem_cons_succ, List.getElem_cons_zero, List.setIfInBounds_toArray, List.set_cons_zero, List.set_cons_succ]
        refine wpAnyH_done (by kernel_rfl) ?_ _
        go_wp2_with fail
        go_meet
        exact ⟨ret_val (by rw [← HO1.out]; unfold o1B; rw [HF0.out, HR.out]; rfl), hb⟩
      · refine wpAnyH_take (i := 7) (oi := _) (v := .bool true) rfl (by kernel_rfl) (by kernel_rfl) (by kernel_rfl) (fun _ _ _ h => h) (Or.inl ⟨by rfl, ?_⟩) (by assumption) ?_
        · intro W hSw
          try dsimp only at hSw
          go_simp
        try simp only [Act.put, List.getElem_toArray, List.getElem_cons_succ, List.getElem_cons_zero, List.setIfInBounds_toArray, List.set_cons_zero, List.set_cons_succ]
        refine wpAnyH_take (i := 8) (oi := _) (v := .bool true) rfl (by kernel_rfl) (by kernel_rfl) (by kernel_rfl) (fun _ _ _ h => h) (Or.inl ⟨by rfl, ?_⟩) (by assumption) ?_
        · intro W hSw
          try dsimp only at hSw
          go_simp
        try simp only [Act.put, List.getElem_toArray, List.getElem_cons_succ, List.getElem_cons_zero, List.setIfInBounds_toArray, List.set_cons_zero, List.set_cons_succ]
        refine wpAnyH_take (i := 9) (oi := _) (v := .pointer (some ⟨w.heap.size, 3, none⟩)) rfl (by kernel_rfl) (by kernel_rfl) (by kernel_rfl) (fun _ _ _ h => h) (Or.inl ⟨by rfl, ?_⟩) (by assumption) ?_
        · intro W hSw
          try dsimp only at hSw
          go_simp
        try simp only [Act.put, List.getElem_toArray, List.getElem_cons_succ, List.getElem_cons_zero, List.setIfInBounds_toArray, List.set_cons_zero, List.set_cons_succ]
        refine wpAnyH_take (i := 10) (oi := _) (v := .int .u64 m.vw) rfl (by kernel_rfl) (by kernel_rfl) (by kernel_rfl) (fun _ _ _ h => h) (Or.inl ⟨by rfl, ?_⟩) (by assumption) ?_
        · intro W hSw
          try dsimp only at hSw
          go_simp
        try simp only [Act.put, List.getElem_toArray, List.getElem_cons_succ, List.getElem_cons_zero, List.setIfInBounds_toArray, List.set_cons_zero, List.set_cons_succ]
        refine wpAnyH_take (i := 11) (oi := _) (v := .pointer (some ⟨w.heap.size, 4, none⟩)) rfl (by kernel_rfl) (by kernel_rfl) (by kernel_rfl) (fun _ _ _ h => h) (Or.inl ⟨by rfl, ?_⟩) (by assumption) ?_
        · intro W hSw
          try dsimp only at hSw
          go_simp
        try simp only [Act.put, List.getElem_toArray, List.getElem_cons_succ, List.getElem_cons_zero, List.setIfInBounds_toArray, List.set_cons_zero, List.set_cons_succ]
        refine wpAnyH_take (i := 12) (oi := _) (v := .int .u64 m.sl) rfl (by kernel_rfl) (by kernel_rfl) (by kernel_rfl) (fun _ _ _ h => h) (Or.inl ⟨by rfl, ?_⟩) (by assumption) ?_
        · intro W hSw
          try dsimp only at hSw
          go_simp
        try simp only [Act.put, List.getElem_toArray, List.getElem_cons_succ, List.getElem_cons_zero, List.setIfInBounds_toArray, List.set_cons_zero, List.set_cons_succ]
        refine wpAnyH_take (i := 13) (oi := _) (v := .pointer (some ⟨w.heap.size, 5, none⟩)) rfl (by kernel_rfl) (by kernel_rfl) (by kernel_rfl) (fun _ _ _ h => h) (Or.inl ⟨by rfl, ?_⟩) (by assumption) ?_
        · intro W hSw
          try dsimp only at hSw
          go_simp
        try simp only [Act.put, List.getElem_toArray, List.getElem_cons_succ, List.getElem_cons_zero, List.setIfInBounds_toArray, List.set_cons_zero, List.set_cons_succ]
        refine wpAnyH_take (i := 14) (oi := _) (v := .int .u64 m.num) rfl (by kernel_rfl) (by kernel_rfl) (by kernel_rfl) (fun _ _ _ h => h) (Or.inl ⟨by rfl, ?_⟩) (by assumption) ?_
        · intro W hSw
          try dsimp only at hSw
          go_simp
        try simp only [Act.put, List.getElem_toArray, List.getElem_cons_succ, List.getElem_cons_zero, List.setIfInBounds_toArray, List.set_cons_zero, List.set_cons_succ]
        obtain ⟨mx, hmx⟩ : ∃ x : Int, (if (if m.vw < m.sl then (m.sl : Int) else (m.vw : Int)) < (m.num : Int) then (m.num : Int) else if m.vw < m.sl then (m.sl : Int) else (m.vw : Int)) = x := ⟨_, rfl⟩
        have HMX := hid hmx
        refine wpAnyH_take (i := 15) (oi := _) (v := .int .u64 mx) rfl (by kernel_rfl) (by kernel_rfl) (by kernel_rfl) (fun _ _ _ h => h) (Or.inl ⟨by rfl, ?_⟩) (by assumption) ?_
        · intro W hSw
          try dsimp only at hSw
          go_simp
        try simp only [Act.put, List.getElem_toArray, List.getElem_cons_succ, List.getElem_cons_zero, List.setIfInBounds_toArray, List.set_cons_zero, List.set_cons_succ]
        obtain ⟨p2, hp2⟩ : ∃ p, decide (m.vw ≤ 4611686018427387904 ∧ m.sl ≤ 4611686018427387904 ∧ m.num ≤ 4611686018427387904) = p := ⟨_, rfl⟩
        have hp3 : decide (mx ≤ 4611686018427387904) = p2 := by
          rw [← hp2, ← hmx]
          congr 1
          simp only [eq_iff_iff]
          split <;> split <;> omega
        have HP2 := hid hp2
        clear hp2 hmx
        refine wpAnyH_take (i := 16) (oi := _) (v := .bool p2) rfl (by kernel_rfl) (by kernel_rfl) (by kernel_rfl) (fun _ _ _ h => h) (Or.inl ⟨by rfl, ?_⟩) (by assumption) ?_
        · intro W hSw
          try dsimp only at hSw
          go_simp
        try simp only [Act.put, List.getElem_toArray, List.getElem_cons_succ, List.getElem_cons_zero, List.setIfInBounds_toArray, List.set_cons_zero, List.set_cons_succ]
        clear hp3
        cases p2
        · refine wpAnyH_take (i := 17) (oi := _) (v := .bool false) rfl (by kernel_rfl) (by kernel_rfl) (by kernel_rfl) (fun _ _ _ h => h) (Or.inl ⟨by rfl, ?_⟩) (by assumption) ?_
          · intro W hSw
            try dsimp only at hSw
            go_simp
          try simp only [Act.put, List.getElem_toArray, List.getElem_cons_succ, List.getElem_cons_zero, List.setIfInBounds_toArray, List.set_cons_zero, List.set_cons_succ]
          refine wpAnyH_take (i := 18) (oi := _) (v := .bool false) rfl (by kernel_rfl) (by kernel_rfl) (by kernel_rfl) (fun _ _ _ h => h) (Or.inl ⟨by rfl, ?_⟩) (by assumption) ?_
          · intro W hSw
            try dsimp only at hSw
            go_simp
          try simp only [Act.put, List.getElem_toArray, List.getElem_cons_succ, List.getElem_cons_zero, List.setIfInBounds_toArray, List.set_cons_zero, List.set_cons_succ]
          refine wpAnyH_take (i := 19) (oi := _) (v := undef) rfl (by kernel_rfl) (by kernel_rfl) (by kernel_rfl) (fun _ _ _ h => h) (Or.inr ⟨by rfl, rfl⟩) (by assumption) ?_
          try simp only [Act.put, List.getElem_toArray, List.getElem_cons_succ, List.getElem_cons_zero, List.setIfInBounds_toArray, List.set_cons_zero, List.set_cons_succ]
          refine wpAnyH_take (i := 20) (oi := _) (v := undef) rfl (by kernel_rfl) (by kernel_rfl) (by kernel_rfl) (fun _ _ _ h => h) (Or.inr ⟨by rfl, rfl⟩) (by assumption) ?_
          try simp only [Act.put, List.getElem_toArray, List.getElem_cons_succ, List.getElem_cons_zero, List.setIfInBounds_toArray, List.set_cons_zero, List.set_cons_succ]
          refine wpAnyH_take (i := 21) (oi := _) (v := undef) rfl (by kernel_rfl) (by kernel_rfl) (by kernel_rfl) (fun _ _ _ h => h) (Or.inr ⟨by rfl, rfl⟩) (by assumption) ?_
          try simp only [Act.put, List.getElem_toArray, List.getElem_cons_succ, List.getElem_cons_zero, List.setIfInBounds_toArray, List.set_cons_zero, List.set_cons_succ]
          refine wpAnyH_take (i := 22) (oi := _) (v := .bool false) rfl (by kernel_rfl) (by kernel_rfl) (by kernel_rfl) (fun _ _ _ h => h) (Or.inl ⟨by rfl, ?_⟩) (by assumption) ?_
          · intro W hSw
            try dsimp only at hSw
            go_simp
          try simp only [Act.put, List.getElem_toArray, List.getElem_cons_succ, List.getElem_cons_zero, List.setIfInBounds_toArray, List.set_cons_zero, List.set_cons_succ]
          refine wpAnyH_take (i := 23) (oi := _) (v := .bool false) rfl (by kernel_rfl) (by kernel_rfl) (by kernel_rfl) (fun _ _ _ h => h) (Or.inl ⟨by rfl, ?_⟩) (by assumption) ?_
          · intro W hSw
            try dsimp only at hSw
            go_simp
          try simp only [Act.put, List.getElem_toArray, List.getElem_cons_succ, List.getElem_cons_zero, List.setIfInBounds_toArray, List.set_cons_zero, List.set_cons_succ]
          refine wpAnyH_take (i := 24) (oi := _) (v := undef) rfl (by kernel_rfl) (by kernel_rfl) (by kernel_rfl) (fun _ _ _ h => h) (Or.inr ⟨by rfl, rfl⟩) (by assumption) ?_
          try simp only [Act.put, List.getElem_toArray, List.getElem_cons_succ, List.getElem_cons_zero, List.setIfInBounds_toArray, List.set_cons_zero, List.set_cons_succ]
          refine wpAnyH_take (i := 25) (oi := _) (v := undef) rfl (by kernel_rfl) (by kernel_rfl) (by kernel_rfl) (fun _ _ _ h => h) (Or.inr ⟨by rfl, rfl⟩) (by assumption) ?_
          try simp only [Act.put, List.getElem_toArray, List.getElem_cons_succ, List.getElem_cons_zero, List.setIfInBounds_toArray, List.set_cons_zero, List.set_cons_succ]
          refine wpAnyH_take (i := 26) (oi := _) (v := undef) rfl (by kernel_rfl) (by kernel_rfl) (by kernel_rfl) (fun _ _ _ h => h) (Or.inr ⟨by rfl, rfl⟩) (by assumption) ?_
          try simp only [Act.put, List.getElem_toArray, List.getElem_cons_succ, List.getElem_cons_zero, List.setIfInBounds_toArray, List.set_cons_zero, List.set_cons_succ]
          refine wpAnyH_take (i := 27) (oi := _) (v := .bool false) rfl (by kernel_rfl) (by kernel_rfl) (by kernel_rfl) (fun _ _ _ h => h) (Or.inl ⟨by rfl, ?_⟩) (by assumption) ?_
          · intro W hSw
            try dsimp only at hSw
            go_simp
          try simp only [Act.put, List.getElem_toArray, List.getElem_cons_succ, List.getElem_cons_zero, List.setIfInBounds_toArray, List.set_cons_zero, List.set_cons_succ]
          refine wpAnyH_take (i := 28) (oi := _) (v := .bool false) rfl (by kernel_rfl) (by kernel_rfl) (by kernel_rfl) (fun _ _ _ h => h) (Or.inl ⟨by rfl, ?_⟩) (by assumption) ?_
          · intro W hSw
            try dsimp only at hSw
            go_simp
          try simp only [Act.put, List.getElem_toArray, List.getElem_cons_succ, List.getElem_cons_zero, List.setIfInBounds_toArray, List.set_cons_zero, List.set_cons_succ]
          refine wpAnyH_take (i := 29) (oi := _) (v := undef) rfl (by kernel_rfl) (by kernel_rfl) (by kernel_rfl) (fun _ _ _ h => h) (Or.inr ⟨by rfl, rfl⟩) (by assumption) ?_
          try simp only [Act.put, List.getElem_toArray, List.getElem_cons_succ, List.getElem_cons_zero, List.setIfInBounds_toArray, List.set_cons_zero, List.set_cons_succ]
          refine wpAnyH_take (i := 30) (oi := _) (v := undef) rfl (by kernel_rfl) (by kernel_rfl) (by kernel_rfl) (fun _ _ _ h => h) (Or.inr ⟨by rfl, rfl⟩) (by assumption) ?_
          try simp only [Act.put, List.getElem_toArray, List.getElem_cons_succ, List.getElem_cons_zero, List.setIfInBounds_toArray, List.set_cons_zero, List.set_cons_succ]
          refine wpAnyH_take (i := 31) (oi := _) (v := undef) rfl (by kernel_rfl) (by kernel_rfl) (by kernel_rfl) (fun _ _ _ h => h) (Or.inr ⟨by rfl, rfl⟩) (by assumption) ?_
          try simp only [Act.put, List.getElem_toArray, List.getElem_cons_succ, List.getElem_cons_zero, List.setIfInBounds_toArray, List.set_cons_zero, List.set_cons_succ]
          refine wpAnyH_take (i := 32) (oi := _) (v := undef) rfl (by kernel_rfl) (by kernel_rfl) (by kernel_rfl) (fun _ _ _ h => h) (Or.inr ⟨by rfl, rfl⟩) (by assumption) ?_
          try simp only [Act.put, List.getElem_toArray, List.getElem_cons_succ, List.getElem_cons_zero, List.setIfInBounds_toArray, List.set_cons_zero, List.set_cons_succ]
          refine wpAnyH_take (i := 33) (oi := _) (v := .bool false) rfl (by kernel_rfl) (by kernel_rfl) (by kernel_rfl) (fun _ _ _ h => h) (Or.inl ⟨by rfl, ?_⟩) (by assumption) ?_
          · intro W hSw
            try dsimp only at hSw
            go_simp
          try simp only [Act.put, List.getElem_toArray, List.getElem_cons_succ, List.getElem_cons_zero, List.setIfInBounds_toArray, List.set_cons_zero, List.set_cons_succ]
          refine wpAnyH_take (i := 34) (oi := _) (v := .bool false) rfl (by kernel_rfl) (by kernel_rfl) (by kernel_rfl) (fun _ _ _ h => h) (Or.inl ⟨by rfl, ?_⟩) (by assumption) ?_
          · intro W hSw
            try dsimp only at hSw
            go_simp
          try simp only [Act.put, List.getElem_toArray, List.getElem_cons_succ, List.getElem_cons_zero, List.setIfInBounds_toArray, List.set_cons_zero, List.set_cons_succ]
          refine wpAnyH_done (by kernel_rfl) ?_ _
          go_wp2_with fail
          go_meet
          exact ⟨ret_val (by rw [← HO1.out]; unfold o1B; rw [HF0.out, HR.out, HP2.out]; rfl), hb⟩
        · refine wpAnyH_take (i := 17) (oi := _) (v := .bool true) rfl (by kernel_rfl) (by kernel_rfl) (by kernel_rfl) (fun _ _ _ h => h) (Or.inl ⟨by rfl, ?_⟩) (by assumption) ?_
          · intro W hSw
            try dsimp only at hSw
            go_simp
          try simp only [Act.put, List.getElem_toArray, List.getElem_cons_succ, List.getElem_cons_zero, List.setIfInBounds_toArray, List.set_cons_zero, List.set_cons_succ]
          refine wpAnyH_take (i := 18) (oi := _) (v := .bool true) rfl (by kernel_rfl) (by kernel_rfl) (by kernel_rfl) (fun _ _ _ h => h) (Or.inl ⟨by rfl, ?_⟩) (by assumption) ?_
          · intro W hSw
            try dsimp only at hSw
            go_simp
          try simp only [Act.put, List.getElem_toArray, List.getElem_cons_succ, List.getElem_cons_zero, List.setIfInBounds_toArray, List.set_cons_zero, List.set_cons_succ]
          refine wpAnyH_take (i := 19) (oi := _) (v := .pointer (some ⟨w.heap.size, 6, none⟩)) rfl (by kernel_rfl) (by kernel_rfl) (by kernel_rfl) (fun _ _ _ h => h) (Or.inl ⟨by rfl, ?_⟩) (by assumption) ?_
          · intro W hSw
            try dsimp only at hSw
            go_simp
          try simp only [Act.put, List.getElem_toArray, List.getElem_cons_succ, List.getElem_cons_zero, List.setIfInBounds_toArray, List.set_cons_zero, List.set_cons_succ]
          refine wpAnyH_take (i := 20) (oi := _) (v := .int .i64 m.hops) rfl (by kernel_rfl) (by kernel_rfl) (by kernel_rfl) (fun _ _ _ h => h) (Or.inl ⟨by rfl, ?_⟩) (by assumption) ?_
          · intro W hSw
            try dsimp only at hSw
            go_simp
          try simp only [Act.put, List.getElem_toArray, List.getElem_cons_succ, List.getElem_cons_zero, List.setIfInBounds_toArray, List.set_cons_zero, List.set_cons_succ]
          by_cases hh0 : 0 ≤ m.hops
          · have hp3 : decide (0 ≤ m.hops) = true := by simpa using hh0
            refine wpAnyH_take (i := 21) (oi := _) (v := .bool true) rfl (by kernel_rfl) (by kernel_rfl) (by kernel_rfl) (fun _ _ _ h => h) (Or.inl ⟨by rfl, ?_⟩) (by assumption) ?_
            · intro W hSw
              try dsimp only at hSw
              go_simp
            try simp only [Act.put, List.getElem_toArray, List.getElem_cons_succ, List.getElem_cons_zero, List.setIfInBounds_toArray, List.set_cons_zero, List.set_cons_succ]
            clear hp3
            refine wpAnyH_take (i := 22) (oi := _) (v := .bool true) rfl (by kernel_rfl) (by kernel_rfl) (by kernel_rfl) (fun _ _ _ h => h) (Or.inl ⟨by rfl, ?_⟩) (by assumption) ?_
            · intro W hSw
              try dsimp only at hSw
              go_simp
            try simp only [Act.put, List.getElem_toArray, List.getElem_cons_succ, List.getElem_cons_zero, List.setIfInBounds_toArray, List.set_cons_zero, List.set_cons_succ]
            refine wpAnyH_take (i := 23) (oi := _) (v := .bool true) rfl (by kernel_rfl) (by kernel_rfl) (by kernel_rfl) (fun _ _ _ h => h) (Or.inl ⟨by rfl, ?_⟩) (by assumption) ?_
            · intro W hSw
              try dsimp only at hSw
              go_simp
            try simp only [Act.put, List.getElem_toArray, List.getElem_cons_succ, List.getElem_cons_zero, List.setIfInBounds_toArray, List.set_cons_zero, List.set_cons_succ]
            refine wpAnyH_take (i := 24) (oi := _) (v := .pointer (some ⟨w.heap.size, 6, none⟩)) rfl (by kernel_rfl) (by kernel_rfl) (by kernel_rfl) (fun _ _ _ h => h) (Or.inl ⟨by rfl, ?_⟩) (by assumption) ?_
            · intro W hSw
              try dsimp only at hSw
              go_simp
            try simp only [Act.put, List.getElem_toArray, List.getElem_cons_succ, List.getElem_cons_zero, List.setIfInBounds_toArray, List.set_cons_zero, List.set_cons_succ]
            refine wpAnyH_take (i := 25) (oi := _) (v := .int .i64 m.hops) rfl (by kernel_rfl) (by kernel_rfl) (by kernel_rfl) (fun _ _ _ h => h) (Or.inl ⟨by rfl, ?_⟩) (by assumption) ?_
            · intro W hSw
              try dsimp only at hSw
              go_simp
            try simp only [Act.put, List.getElem_toArray, List.getElem_cons_succ, List.getElem_cons_zero, List.setIfInBounds_toArray, List.set_cons_zero, List.set_cons_succ]
            by_cases hh4 : m.hops ≤ 4
            · have hp3 : decide (m.hops ≤ 4) = true := by simpa using hh4
              have HP3 : Hid (decide (0 ≤ m.hops ∧ m.hops ≤ 4) = true) := hid (by simp; omega)
              clear hh0 hh4
              refine wpAnyH_take (i := 26) (oi := _) (v := .bool true) rfl (by kernel_rfl) (by kernel_rfl) (by kernel_rfl) (fun _ _ _ h => h) (Or.inl ⟨by rfl, ?_⟩) (by assumption) ?_
              · intro W hSw
                try dsimp only at hSw
                go_simp
              try simp only [Act.put, List.getElem_toArray, List.getElem_cons_succ, List.getElem_cons_zero, List.setIfInBounds_toArray, List.set_cons_zero, List.set_cons_succ]
              clear hp3
              refine wpAnyH_take (i := 27) (oi := _) (v := .bool true) rfl (by kernel_rfl) (by kernel_rfl) (by kernel_rfl) (fun _ _ _ h => h) (Or.inl ⟨by rfl, ?_⟩) (by assumption) ?_
              · intro W hSw
                try dsimp only at hSw
                go_simp
              try simp only [Act.put, List.getElem_toArray, List.getElem_cons_succ, List.getElem_cons_zero, List.setIfInBounds_toArray, List.set_cons_zero, List.set_cons_succ]
              refine wpAnyH_take (i := 28) (oi := _) (v := .bool true) rfl (by kernel_rfl) (by kernel_rfl) (by kernel_rfl) (fun _ _ _ h => h) (Or.inl ⟨by rfl, ?_⟩) (by assumption) ?_
              · intro W hSw
                try dsimp only at hSw
                go_simp
              try simp only [Act.put, List.getElem_toArray, List.getElem_cons_succ, List.getElem_cons_zero, List.setIfInBounds_toArray, List.set_cons_zero, List.set_cons_succ]
              refine wpAnyH_take (i := 29) (oi := _) (v := .pointer (some ⟨w.heap.size, 28, none⟩)) rfl (by kernel_rfl) (by kernel_rfl) (by kernel_rfl) (fun _ _ _ h => h) (Or.inl ⟨by rfl, ?_⟩) (by assumption) ?_
              · intro W hSw
                try dsimp only at hSw
                go_simp
              try simp only [Act.put, List.getElem_toArray, List.getElem_cons_succ, List.getElem_cons_zero, List.setIfInBounds_toArray, List.set_cons_zero, List.set_cons_succ]
              refine wpAnyH_take (i := 30) (oi := _) (v := .slice A.ya m.y.length A.yc) rfl (by kernel_rfl) (by kernel_rfl) (by kernel_rfl) (fun _ _ _ h => h) (Or.inl ⟨by rfl, ?_⟩) (by assumption) ?_
              · intro W hSw
                try dsimp only at hSw
                go_simp
              try simp only [Act.put, List.getElem_toArray, List.getElem_cons_succ, List.getElem_cons_zero, List.setIfInBounds_toArray, List.set_cons_zero, List.set_cons_succ]
              refine wpAnyH_take (i := 31) (oi := _) (v := .int .i64 m.y.length) rfl (by kernel_rfl) (by kernel_rfl) (by kernel_rfl) (fun _ _ _ h => h) (Or.inl ⟨by rfl, ?_⟩) (by assumption) ?_
              · intro W hSw
                try dsimp only at hSw
                go_simp
              try simp only [Act.put, List.getElem_toArray, List.getElem_cons_succ, List.getElem_cons_zero, List.setIfInBounds_toArray, List.set_cons_zero, List.set_cons_succ]
              obtain ⟨p4, hp4⟩ : ∃ p, decide (m.y.length ≤ 200) = p := ⟨_, rfl⟩
              have hp5 : decide ((m.y.length : Int) ≤ 200) = p4 := by
                rw [← hp4]
                congr 1
                simp only [eq_iff_iff]
                omega
              have HP4 := hid hp4
              clear hp4
              refine wpAnyH_take (i := 32) (oi := _) (v := .bool p4) rfl (by kernel_rfl) (by kernel_rfl) (by kernel_rfl) (fun _ _ _ h => h) (Or.inl ⟨by rfl, ?_⟩) (by assumption) ?_
              · intro W hSw
                try dsimp only at hSw
                go_simp
              try simp only [Act.put, List.getElem_toArray, List.getElem_cons_succ, List.getElem_cons_zero, List.setIfInBounds_toArray, List.set_cons_zero, List.set_cons_succ]
              clear hp5
              refine wpAnyH_take (i := 33) (oi := _) (v := .bool p4) rfl (by kernel_rfl) (by kernel_rfl) (by kernel_rfl) (fun _ _ _ h => h) (Or.inl ⟨by rfl, ?_⟩) (by assumption) ?_
              · intro W hSw
                try dsimp only at hSw
                go_simp
              try simp only [Act.put, List.getElem_toArray, List.getElem_cons_succ, List.getElem_cons_zero, List.setIfInBounds_toArray, List.set_cons_zero, List.set_cons_succ]
              refine wpAnyH_take (i := 34) (oi := _) (v := .bool p4) rfl (by kernel_rfl) (by kernel_rfl) (by kernel_rfl) (fun _ _ _ h => h) (Or.inl ⟨by rfl, ?_⟩) (by assumption) ?_
              · intro W hSw
                try dsimp only at hSw
                go_simp
              try simp only [Act.put, List.getElem_toArray, List.getElem_cons_succ, List.getElem_cons_zero, List.setIfInBounds_toArray, List.set_cons_zero, List.set_cons_succ]
              refine wpAnyH_done (by kernel_rfl) ?_ _
              go_wp2_with fail
              go_meet
              exact ⟨ret_val (by rw [← HO1.out]; unfold o1B; rw [HF0.out, HR.out, HP2.out, HP3.out, HP4.out]; rfl), hb⟩
            · have hp3 : decide (m.hops ≤ 4) = false := by simpa using hh4
              have HP3 : Hid (decide (0 ≤ m.hops ∧ m.hops ≤ 4) = false) := hid (by simp; omega)
              clear hh0 hh4
              refine wpAnyH_take (i := 26) (oi := _) (v := .bool false) rfl (by kernel_rfl) (by kernel_rfl) (by kernel_rfl) (fun _ _ _ h => h) (Or.inl ⟨by rfl, ?_⟩) (by assumption) ?_
              · intro W hSw
                try dsimp only at hSw
                go_simp
              try simp only [Act.put, List.getElem_toArray, List.getElem_cons_succ, List.getElem_cons_zero, List.setIfInBounds_toArray, List.set_cons_zero, List.set_cons_succ]
              clear hp3
              refine wpAnyH_take (i := 27) (oi := _) (v := .bool false) rfl (by kernel_rfl) (by kernel_rfl) (by kernel_rfl) (fun _ _ _ h => h) (Or.inl ⟨by rfl, ?_⟩) (by assumption) ?_
              · intro W hSw
                try dsimp only at hSw
                go_simp
              try simp only [Act.put, List.getElem_toArray, List.getElem_cons_succ, List.getElem_cons_zero, List.setIfInBounds_toArray, List.set_cons_zero, List.set_cons_succ]
              refine wpAnyH_take (i := 28) (oi := _) (v := .bool false) rfl (by kernel_rfl) (by kernel_rfl) (by kernel_rfl) (fun _ _ _ h => h) (Or.inl ⟨by rfl, ?_⟩) (by assumption) ?_
              · intro W hSw
                try dsimp only at hSw
                go_simp
              try simp only [Act.put, List.getElem_toArray, List.getElem_cons_succ, List.getElem_cons_zero, List.setIfInBounds_toArray, List.set_cons_zero, List.set_cons_succ]
              refine wpAnyH_take (i := 29) (oi := _) (v := undef) rfl (by kernel_rfl) (by kernel_rfl) (by kernel_rfl) (fun _ _ _ h => h) (Or.inr ⟨by rfl, rfl⟩) (by assumption) ?_
              try simp only [Act.put, List.getElem_toArray, List.getElem_cons_succ, List.getElem_cons_zero, List.setIfInBounds_toArray, List.set_cons_zero, List.set_cons_succ]
              refine wpAnyH_take (i := 30) (oi := _) (v := undef) rfl (by kernel_rfl) (by kernel_rfl) (by kernel_rfl) (fun _ _ _ h => h) (Or.inr ⟨by rfl, rfl⟩) (by assumption) ?_
              try simp only [Act.put, List.getElem_toArray, List.getElem_cons_succ, List.getElem_cons_zero, List.setIfInBounds_toArray, List.set_cons_zero, List.set_cons_succ]
              refine wpAnyH_take (i := 31) (oi := _) (v := undef) rfl (by kernel_rfl) (by kernel_rfl) (by kernel_rfl) (fun _ _ _ h => h) (Or.inr ⟨by rfl, rfl⟩) (by assumption) ?_
              try simp only [Act.put, List.getElem_toArray, List.getElem_cons_succ, List.getElem_cons_zero, List.setIfInBounds_toArray, List.set_cons_zero, List.set_cons_succ]
              refine wpAnyH_take (i := 32) (oi := _) (v := undef) rfl (by kernel_rfl) (by kernel_rfl) (by kernel_rfl) (fun _ _ _ h => h) (Or.inr ⟨by rfl, rfl⟩) (by assumption) ?_
              try simp only [Act.put, List.getElem_toArray, List.getElem_cons_succ, List.getElem_cons_zero, List.setIfInBounds_toArray, List.set_cons_zero, List.set_cons_succ]
              refine wpAnyH_take (i := 33) (oi := _) (v := .bool false) rfl (by kernel_rfl) (by kernel_rfl) (by kernel_rfl) (fun _ _ _ h => h) (Or.inl ⟨by rfl, ?_⟩) (by assumption) ?_
              · intro W hSw
                try dsimp only at hSw
                go_simp
              try simp only [Act.put, List.getElem_toArray, List.getElem_cons_succ, List.getElem_cons_zero, List.setIfInBounds_toArray, List.set_cons_zero, List.set_cons_succ]
              refine wpAnyH_take (i := 34) (oi := _) (v := .bool false) rfl (by kernel_rfl) (by kernel_rfl) (by kernel_rfl) (fun _ _ _ h => h) (Or.inl ⟨by rfl, ?_⟩) (by assumption) ?_
              · intro W hSw
                try dsimp only at hSw
                go_simp
              try simp only [Act.put, List.getElem_toArray, List.getElem_cons_succ, List.getElem_cons_zero, List.setIfInBounds_toArray, List.set_cons_zero, List.set_cons_succ]
              refine wpAnyH_done (by kernel_rfl) ?_ _
              go_wp2_with fail
              go_meet
              exact ⟨ret_val (by rw [← HO1.out]; unfold o1B; rw [HF0.out, HR.out, HP2.out, HP3.out]; rfl), hb⟩
          · have hp3 : decide (0 ≤ m.hops) = false := by simpa using hh0
            have HP3 : Hid (decide (0 ≤ m.hops ∧ m.hops ≤ 4) = false) := hid (by simp; omega)
            clear hh0
            refine wpAnyH_take (i := 21) (oi := _) (v := .bool false) rfl (by kernel_rfl) (by kernel_rfl) (by kernel_rfl) (fun _ _ _ h => h) (Or.inl ⟨by rfl, ?_⟩) (by assumption) ?_
            · intro W hSw
              try dsimp only at hSw
              go_simp
            try simp only [Act.put, List.getElem_toArray, List.getElem_cons_succ, List.getElem_cons_zero, List.setIfInBounds_toArray, List.set_cons_zero, List.set_cons_succ]
            clear hp3
            refine wpAnyH_take (i := 22) (oi := _) (v := .bool false) rfl (by kernel_rfl) (by kernel_rfl) (by kernel_rfl) (fun _ _ _ h => h) (Or.inl ⟨by rfl, ?_⟩) (by assumption) ?_
            · intro W hSw
              try dsimp only at hSw
              go_simp
            try simp only [Act.put, List.getElem_toArray, List.getElem_cons_succ, List.getElem_cons_zero, List.setIfInBounds_toArray, List.set_cons_zero, List.set_cons_succ]
            refine wpAnyH_take (i := 23) (oi := _) (v := .bool false) rfl (by kernel_rfl) (by kernel_rfl) (by kernel_rfl) (fun _ _ _ h => h) (Or.inl ⟨by rfl, ?_⟩) (by assumption) ?_
            · intro W hSw
              try dsimp only at hSw
              go_simp
            try simp only [Act.put, List.getElem_toArray, List.getElem_cons_succ, List.getElem_cons_zero, List.setIfInBounds_toArray, List.set_cons_zero, List.set_cons_succ]
            refine wpAnyH_take (i := 24) (oi := _) (v := undef) rfl (by kernel_rfl) (by kernel_rfl) (by kernel_rfl) (fun _ _ _ h => h) (Or.inr ⟨by rfl, rfl⟩) (by assumption) ?_
            try simp only [Act.put, List.getElem_toArray, List.getElem_cons_succ, List.getElem_cons_zero, List.setIfInBounds_toArray, List.set_cons_zero, List.set_cons_succ]
            refine wpAnyH_take (i := 25) (oi := _) (v := undef) rfl (by kernel_rfl) (by kernel_rfl) (by kernel_rfl) (fun _ _ _ h => h) (Or.inr ⟨by rfl, rfl⟩) (by assumption) ?_
            try simp only [Act.put, List.getElem_toArray, List.getElem_cons_succ, List.getElem_cons_zero, List.setIfInBounds_toArray, List.set_cons_zero, List.set_cons_succ]
            refine wpAnyH_take (i := 26) (oi := _) (v := undef) rfl (by kernel_rfl) (by kernel_rfl) (by kernel_rfl) (fun _ _ _ h => h) (Or.inr ⟨by rfl, rfl⟩) (by assumption) ?_
            try simp only [Act.put, List.getElem_toArray, List.getElem_cons_succ, List.getElem_cons_zero, List.setIfInBounds_toArray, List.set_cons_zero, List.set_cons_succ]
            refine wpAnyH_take (i := 27) (oi := _) (v := .bool false) rfl (by kernel_rfl) (by kernel_rfl) (by kernel_rfl) (fun _ _ _ h => h) (Or.inl ⟨by rfl, ?_⟩) (by assumption) ?_
            · intro W hSw
              try dsimp only at hSw
              go_simp
            try simp only [Act.put, List.getElem_toArray, List.getElem_cons_succ, List.getElem_cons_zero, List.setIfInBounds_toArray, List.set_cons_zero, List.set_cons_succ]
            refine wpAnyH_take (i := 28) (oi := _) (v := .bool false) rfl (by kernel_rfl) (by kernel_rfl) (by kernel_rfl) (fun _ _ _ h => h) (Or.inl ⟨by rfl, ?_⟩) (by assumption) ?_
            · intro W hSw
              try dsimp only at hSw
              go_simp
            try simp only [Act.put, List.getElem_toArray, List.getElem_cons_succ, List.getElem_cons_zero, List.setIfInBounds_toArray, List.set_cons_zero, List.set_cons_succ]
            refine wpAnyH_take (i := 29) (oi := _) (v := undef) rfl (by kernel_rfl) (by kernel_rfl) (by kernel_rfl) (fun _ _ _ h => h) (Or.inr ⟨by rfl, rfl⟩) (by assumption) ?_
            try simp only [Act.put, List.getElem_toArray, List.getElem_cons_succ, List.getElem_cons_zero, List.setIfInBounds_toArray, List.set_cons_zero, List.set_cons_succ]
            refine wpAnyH_take (i := 30) (oi := _) (v := undef) rfl (by kernel_rfl) (by kernel_rfl) (by kernel_rfl) (fun _ _ _ h => h) (Or.inr ⟨by rfl, rfl⟩) (by assumption) ?_
            try simp only [Act.put, List.getElem_toArray, List.getElem_cons_succ, List.getElem_cons_zero, List.setIfInBounds_toArray, List.set_cons_zero, List.set_cons_succ]
            refine wpAnyH_take (i := 31) (oi := _) (v := undef) rfl (by kernel_rfl) (by kernel_rfl) (by kernel_rfl) (fun _ _ _ h => h) (Or.inr ⟨by rfl, rfl⟩) (by assumption) ?_
            try simp only [Act.put, List.getElem_toArray, List.getElem_cons_succ, List.getElem_cons_zero, List.setIfInBounds_toArray, List.set_cons_zero, List.set_cons_succ]
            refine wpAnyH_take (i := 32) (oi := _) (v := undef) rfl (by kernel_rfl) (by kernel_rfl) (by kernel_rfl) (fun _ _ _ h => h) (Or.inr ⟨by rfl, rfl⟩) (by assumption) ?_
            try simp only [Act.put, List.getElem_toArray, List.getElem_cons_succ, List.getElem_cons_zero, List.setIfInBounds_toArray, List.set_cons_zero, List.set_cons_succ]
            refine wpAnyH_take (i := 33) (oi := _) (v := .bool false) rfl (by kernel_rfl) (by kernel_rfl) (by kernel_rfl) (fun _ _ _ h => h) (Or.inl ⟨by rfl, ?_⟩) (by assumption) ?_
            · intro W hSw
              try dsimp only at hSw
              go_simp
            try simp only [Act.put, List.getElem_toArray, List.getElem_cons_succ, List.getElem_cons_zero, List.setIfInBounds_toArray, List.set_cons_zero, List.set_cons_succ]
            refine wpAnyH_take (i := 34) (oi := _) (v := .bool false) rfl (by kernel_rfl) (by kernel_rfl) (by kernel_rfl) (fun _ _ _ h => h) (Or.inl ⟨by rfl, ?_⟩) (by assumption) ?_
            · intro W hSw
              try dsimp only at hSw
              go_simp
            try simp only [Act.put, List.getElem_toArray, List.getElem_cons_succ, List.getElem_cons_zero, List.setIfInBounds_toArray, List.set_cons_zero, List.set_cons_succ]
            refine wpAnyH_done (by kernel_rfl) ?_ _
            go_wp2_with fail
            go_meet
            exact ⟨ret_val (by rw [← HO1.out]; unfold o1B; rw [HF0.out, HR.out, HP2.out, HP3.out]; rfl), hb⟩
  case rest =>
  obtain ⟨rfl, hb2⟩ := hcut
  rename World => w2
  have HB2 := hid hb2
  clear hb2 H1
  obtain ⟨o2, ho2⟩ : ∃ o, (o1 && o2B m) = o := ⟨_, rfl⟩
  have HO2 := hid ho2
  clear ho2
  go_upto_region 3 with fail
  go_cut [4] (fun s wx => s = .bool o2 ∧ Below w2.heap.size w2 wx)
  case first =>
    have MW : Hid (∀ r, mayP m.who = r → ∀ W, Below w2.heap.size w2 W → Calls Tryz.prog 76 #[.agg #[.int .u16 m.who.1, .int .u32 m.who.2]] W fun e w' => e = .returned (.bool r) ∧ Below w2.heap.size w2 w') := hid fun r h W hW => relB hW (mayP_is (hid h) HSM.out.who.2.2.1)
    have MB : Hid (∀ r, mayP m.b.2 = r → ∀ W, Below w2.heap.size w2 W → Calls Tryz.prog 76 #[.agg #[.int .u16 m.b.2.1, .int .u32 m.b.2.2]] W fun e w' => e = .returned (.bool r) ∧ Below w2.heap.size w2 w') := hid fun r h W hW => relB hW (mayP_is (hid h) HSM.out.b.2.2.1)
    have HX2 : Hid (∀ W, Below w2.heap.size w2 W → MsgBox W w.heap.size A m) := hid fun W h => HX.out W (HB2.out.trans (h.mono HB2.out.size))
    have H2 := Below.refl w2.heap.size w2
    cases o1
    case false =>
      go_wp2_with fail
      go_meet
      exact ⟨ret_val (by rw [← HO2.out]; unfold o2B; rfl), H2⟩
    case true =>
      cases r0
      case false =>
        cases r3
        case false =>
          go_wp2_with (first
            | (go_at_call 26; (with_reducible refine (mhas0 HF HR0).mono ?_); rintro e wz ⟨rfl, rfl⟩)
            | (go_at_call 26; (with_reducible refine (mhas3 HF HR3).mono ?_); rintro e wz ⟨rfl, rfl⟩))
          go_meet
          exact ⟨ret_val (by rw [← HO2.out]; unfold o2B; rw [HR0.out, HR3.out]; rfl), H2⟩
        case true =>
          obtain ⟨q, hq⟩ : ∃ q, mayP m.b.2 = q := ⟨_, rfl⟩
          have a8 : w2.cell? ⟨w.heap.size, 8, none⟩ = some (.int .u16 m.b.2.1) := (HX2.out _ H2).cell rfl
          have a9 : w2.cell? ⟨w.heap.size, 9, none⟩ = some (.int .u32 m.b.2.2) := (HX2.out _ H2).cell rfl
          have HQ := hid hq
          clear hq
          go_wp2_with (first
            | (go_at_call 26; (with_reducible refine (mhas0 HF HR0).mono ?_); rintro e wz ⟨rfl, rfl⟩)
            | (go_at_call 26; (with_reducible refine (mhas3 HF HR3).mono ?_); rintro e wz ⟨rfl, rfl⟩)
            | (go_at_call 76; (with_reducible refine (MB.out q HQ.out _ H2).mono ?_); rintro e w4 ⟨rfl, hb4⟩))
          go_meet
          exact ⟨ret_val (by rw [← HO2.out]; unfold o2B; rw [HR0.out, HR3.out, HQ.out]; cases q <;> rfl), hb4⟩
      case true =>
        obtain ⟨p, hp⟩ : ∃ p, mayP m.who = p := ⟨_, rfl⟩
        have HP := hid hp
        clear hp
        have a1 : w2.cell? ⟨w.heap.size, 1, none⟩ = some (.int .u16 m.who.1) := (HX2.out _ H2).cell rfl
        have a2 : w2.cell? ⟨w.heap.size, 2, none⟩ = some (.int .u32 m.who.2) := (HX2.out _ H2).cell rfl
        cases p
        case false =>
          go_wp2_with (first
            | (go_at_call 26; (with_reducible refine (mhas0 HF HR0).mono ?_); rintro e wz ⟨rfl, rfl⟩)
            | (go_at_call 76; (with_reducible refine (MW.out _ HP.out _ H2).mono ?_); rintro e w3 ⟨rfl, hb3⟩))
          go_meet
          exact ⟨ret_val (by rw [← HO2.out]; unfold o2B; rw [HR0.out, HP.out]; rfl), hb3⟩
        case true =>
          cases r3
          case false =>
            go_wp2_with (first
              | (go_at_call 26; (with_reducible refine (mhas0 HF HR0).mono ?_); rintro e wz ⟨rfl, rfl⟩)
              | (go_at_call 76; (with_reducible refine (MW.out _ HP.out _ H2).mono ?_); rintro e w3 ⟨rfl, hb3⟩; have a8 : w3.cell? ⟨w.heap.size, 8, none⟩ = some (.int .u16 m.b.2.1) := (HX2.out _ hb3).cell rfl; have a9 : w3.cell? ⟨w.heap.size, 9, none⟩ = some (.int .u32 m.b.2.2) := (HX2.out _ hb3).cell rfl)
              | (go_at_call 26; (with_reducible refine (mhas3 HF HR3).mono ?_); rintro e wz ⟨rfl, rfl⟩))
            go_meet
            exact ⟨ret_val (by rw [← HO2.out]; unfold o2B; rw [HR0.out, HP.out, HR3.out]; rfl), hb3⟩
          case true =>
            obtain ⟨q, hq⟩ : ∃ q, mayP m.b.2 = q := ⟨_, rfl⟩
            have HQ := hid hq
            clear hq
            go_wp2_with (first
              | (go_at_call 26; (with_reducible refine (mhas0 HF HR0).mono ?_); rintro e wz ⟨rfl, rfl⟩)
              | (go_at_call 76; (with_reducible refine (MW.out _ HP.out _ H2).mono ?_); rintro e w3 ⟨rfl, hb3⟩; have a8 : w3.cell? ⟨w.heap.size, 8, none⟩ = some (.int .u16 m.b.2.1) := (HX2.out _ hb3).cell rfl; have a9 : w3.cell? ⟨w.heap.size, 9, none⟩ = some (.int .u32 m.b.2.2) := (HX2.out _ hb3).cell rfl)
              | (go_at_call 26; (with_reducible refine (mhas3 HF HR3).mono ?_); rintro e wz ⟨rfl, rfl⟩)
              | (go_at_call 76; (with_reducible refine (MB.out q HQ.out _ hb3).mono ?_); rintro e w4 ⟨rfl, hb4⟩))
            go_meet
            exact ⟨ret_val (by rw [← HO2.out]; unfold o2B; rw [HR0.out, HP.out, HR3.out, HQ.out]; cases q <;> rfl), hb4⟩
  case rest =>
  obtain ⟨rfl, hb3⟩ := hcut
  rename World => w3
  have HB3 := hid (HB2.out.trans (hb3.mono HB2.out.size))
  clear hb3 HB2
  obtain ⟨o3, ho3⟩ : ∃ o, (o2 && o3B m) = o := ⟨_, rfl⟩
  have HO3 := hid ho3
  clear ho3
  obtain ⟨ck, hck⟩ : ∃ k : Int, (cmdChk m.c : Int) = k := ⟨_, rfl⟩
  have CK : Hid (∀ W, Below W1.heap.size W1 W → Calls Tryz.prog 77 #[.agg (cmdV A m.c)] W fun e w' => e = .returned (.int .i64 ck) ∧ Below W1.heap.size W1 w') := hid fun W h => relB h (by
    have := cmdCheck_any (dc := A.dc) (cm := A.cm) (cl := A.cl) (cd := A.cd) (HA.out.c.ext h) HSM.out.csum HSM.out.cwf HSM.out.fr
    rw [hck] at this
    exact this)
  obtain ⟨k0, hk0⟩ : ∃ b, decide (cmdChk m.c = 0) = b := ⟨_, rfl⟩
  have hk1 : (ck == 0) = k0 := by
    rw [← hk0, ← hck]
    by_cases h : cmdChk m.c = 0
    · rw [h]; rfl
    · rw [decide_eq_false h, beq_eq_false_iff_ne]; omega
  have HK0 := hid hk0
  have HK1 := hid hk1
  clear hck hk0 hk1
  go_upto_region 4 with fail
  go_cut [4] (fun s wx => s = .bool o3 ∧ Below W1.heap.size W1 wx)
  case first =>
    have MA' : Hid (∀ r, mayP m.a.2 = r → ∀ W, Below W1.heap.size W1 W → Calls Tryz.prog 76 #[.agg #[.int .u16 m.a.2.1, .int .u32 m.a.2.2]] W fun e w' => e = .returned (.bool r) ∧ Below W1.heap.size W1 w') := hid fun r h W hW => relB hW (mayP_is (hid h) HSM.out.a.2.2.1)
    have H3 := HB3.out
    cases o2
    case false =>
      go_wp2_with fail
      go_meet
      exact ⟨ret_val (by rw [← HO3.out]; unfold o3B; rfl), H3⟩
    case true =>
      have a13 : w3.cell? ⟨w.heap.size, 13, none⟩ = some (.bool m.has) := (HX.out _ H3).cell rfl
      obtain ⟨hh, hhe⟩ : ∃ b, m.has = b := ⟨_, rfl⟩
      have HH := hid hhe
      rw [hhe] at a13
      clear hhe
      cases hh
      case false =>
        go_wp2_with fail
        go_meet
        exact ⟨ret_val (by rw [← HO3.out]; unfold o3B; rw [HH.out]; rfl), H3⟩
      case true =>
        obtain ⟨p, hp⟩ : ∃ p, mayP m.a.2 = p := ⟨_, rfl⟩
        have HP := hid hp
        clear hp
        have a11 : w3.cell? ⟨w.heap.size, 11, none⟩ = some (.int .u16 m.a.2.1) := (HX.out _ H3).cell rfl
        have a12 : w3.cell? ⟨w.heap.size, 12, none⟩ = some (.int .u32 m.a.2.2) := (HX.out _ H3).cell rfl
        cases p
        case false =>
          go_wp2_with (first
            | (go_at_call 76; (with_reducible refine (MA'.out _ HP.out _ H3).mono ?_); rintro e w4 ⟨rfl, hb4⟩))
          go_meet
          exact ⟨ret_val (by rw [← HO3.out]; unfold o3B; rw [HH.out, HP.out]; rfl), hb4⟩
        case true =>
          have hk1 := HK1.out
          go_wp2_with (first
            | (go_at_call 76; (with_reducible refine (MA'.out _ HP.out _ H3).mono ?_); rintro e w4 ⟨rfl, hb4⟩; have xm := HX.out _ hb4)
            | (refine wpList_loadMCw xm (by rfl) rfl rfl ?_)
            | (go_at_call 77; (with_reducible refine (CK.out _ hb4).mono ?_); rintro e w5 ⟨rfl, hb5⟩))
          go_meet
          exact ⟨ret_val (by rw [← HO3.out]; unfold o3B; rw [HH.out, HP.out, HK0.out]; cases k0 <;> rfl), hb5⟩
  case rest =>
  obtain ⟨rfl, hb4⟩ := hcut
  rename World => w4
  have HB4 := hid hb4
  clear hb4 HB3
  obtain ⟨o4, ho4⟩ : ∃ o, (o3 && o4B m) = o := ⟨_, rfl⟩
  have HO4 := hid ho4
  clear ho4
  obtain ⟨kb, hkb⟩ : ∃ b, checkB m.v = b := ⟨_, rfl⟩
  have hkr : refCheckB m.v = kb := by rw [← hkb]; exact (check_eq m.v HSM.out.vwf).symm
  have VC : Hid (∀ W, Below W1.heap.size W1 W → Calls Tryz.prog 44 #[.agg #[.int .u64 m.v.id, .slice A.vm m.v.ms.length A.em, .slice A.vl m.v.ls.length A.el, .slice A.vd m.v.ds.length A.ed]] W fun e w' => e = .returned (.int .i64 (errB kb)) ∧ Below W1.heap.size W1 w') := hid fun W h => relB h (check_is (hid hkb) rfl (HA.out.v.ext h) HSM.out.vsum)
  have HKR := hid hkr
  clear hkb hkr
  go_upto_region 5 with fail
  go_cut [4] (fun s wx => s = .bool o4 ∧ Below W1.heap.size W1 wx)
  case first =>
    have H4 := HB4.out
    cases o3
    case false =>
      go_wp2_with fail
      go_meet
      exact ⟨ret_val (by rw [← HO4.out]; unfold o4B; rfl), H4⟩
    case true =>
      cases r7
      case false =>
        cases r8
        case false =>
          go_wp2_with (first
            | (go_at_call 26; (with_reducible refine (mhas7 HF HR7).mono ?_); rintro e wz ⟨rfl, rfl⟩)
            | (go_at_call 26; (with_reducible refine (mhas8 HF HR8).mono ?_); rintro e wz ⟨rfl, rfl⟩))
          go_meet
          exact ⟨ret_val (by rw [← HO4.out]; unfold o4B; rw [HR7.out, HR8.out]; rfl), H4⟩
        case true =>
          cases kb
          case false =>
            have a24 : w4.cell? ⟨w.heap.size, 24, none⟩ = some (.int .u64 m.v.id) := (HX.out _ H4).cell rfl
            have a25 : w4.cell? ⟨w.heap.size, 25, none⟩ = some (.slice A.vm m.v.ms.length A.em) := (HX.out _ H4).cell rfl
            have a26 : w4.cell? ⟨w.heap.size, 26, none⟩ = some (.slice A.vl m.v.ls.length A.el) := (HX.out _ H4).cell rfl
            have a27 : w4.cell? ⟨w.heap.size, 27, none⟩ = some (.slice A.vd m.v.ds.length A.ed) := (HX.out _ H4).cell rfl
            go_wp2_with (first
              | (go_at_call 26; (with_reducible refine (mhas7 HF HR7).mono ?_); rintro e wz ⟨rfl, rfl⟩)
              | (go_at_call 26; (with_reducible refine (mhas8 HF HR8).mono ?_); rintro e wz ⟨rfl, rfl⟩)
              | (go_at_call 44; (with_reducible refine (VC.out _ H4).mono ?_); rintro e w6 ⟨rfl, hb6⟩))
            go_meet
            exact ⟨ret_val (by rw [← HO4.out]; unfold o4B; rw [HR7.out, HR8.out, HKR.out]; rfl), hb6⟩
          case true =>
            have a24 : w4.cell? ⟨w.heap.size, 24, none⟩ = some (.int .u64 m.v.id) := (HX.out _ H4).cell rfl
            have a25 : w4.cell? ⟨w.heap.size, 25, none⟩ = some (.slice A.vm m.v.ms.length A.em) := (HX.out _ H4).cell rfl
            have a26 : w4.cell? ⟨w.heap.size, 26, none⟩ = some (.slice A.vl m.v.ls.length A.el) := (HX.out _ H4).cell rfl
            have a27 : w4.cell? ⟨w.heap.size, 27, none⟩ = some (.slice A.vd m.v.ds.length A.ed) := (HX.out _ H4).cell rfl
            go_wp2_with (first
              | (go_at_call 26; (with_reducible refine (mhas7 HF HR7).mono ?_); rintro e wz ⟨rfl, rfl⟩)
              | (go_at_call 26; (with_reducible refine (mhas8 HF HR8).mono ?_); rintro e wz ⟨rfl, rfl⟩)
              | (go_at_call 44; (with_reducible refine (VC.out _ H4).mono ?_); rintro e w6 ⟨rfl, hb6⟩))
            go_meet
            exact ⟨ret_val (by rw [← HO4.out]; unfold o4B; rw [HR7.out, HR8.out, HKR.out]; rfl), hb6⟩
      case true =>
        have xm := HX.out _ H4
        have hk1 := HK1.out
        cases k0
        case false =>
          go_wp2_with (first
            | (go_at_call 26; (with_reducible refine (mhas7 HF HR7).mono ?_); rintro e wz ⟨rfl, rfl⟩)
            | (refine wpList_loadMCw xm (by rfl) rfl rfl ?_)
            | (go_at_call 77; (with_reducible refine (CK.out _ H4).mono ?_); rintro e w5 ⟨rfl, hb5⟩))
          go_meet
          exact ⟨ret_val (by rw [← HO4.out]; unfold o4B; rw [HR7.out, HK0.out]; rfl), hb5⟩
        case true =>
          cases r8
          case false =>
            go_wp2_with (first
              | (go_at_call 26; (with_reducible refine (mhas7 HF HR7).mono ?_); rintro e wz ⟨rfl, rfl⟩)
              | (refine wpList_loadMCw xm (by rfl) rfl rfl ?_)
              | (go_at_call 77; (with_reducible refine (CK.out _ H4).mono ?_); rintro e w5 ⟨rfl, hb5⟩)
              | (go_at_call 26; (with_reducible refine (mhas8 HF HR8).mono ?_); rintro e wz ⟨rfl, rfl⟩))
            go_meet
            exact ⟨ret_val (by rw [← HO4.out]; unfold o4B; rw [HR7.out, HK0.out, HR8.out]; rfl), hb5⟩
          case true =>
            cases kb
            case false =>
              go_wp2_with (first
                | (go_at_call 26; (with_reducible refine (mhas7 HF HR7).mono ?_); rintro e wz ⟨rfl, rfl⟩)
                | (refine wpList_loadMCw xm (by rfl) rfl rfl ?_)
                | (go_at_call 77; (with_reducible refine (CK.out _ H4).mono ?_); rintro e w5 ⟨rfl, hb5⟩; have a24 : w5.cell? ⟨w.heap.size, 24, none⟩ = some (.int .u64 m.v.id) := (HX.out _ hb5).cell rfl; have a25 : w5.cell? ⟨w.heap.size, 25, none⟩ = some (.slice A.vm m.v.ms.length A.em) := (HX.out _ hb5).cell rfl; have a26 : w5.cell? ⟨w.heap.size, 26, none⟩ = some (.slice A.vl m.v.ls.length A.el) := (HX.out _ hb5).cell rfl; have a27 : w5.cell? ⟨w.heap.size, 27, none⟩ = some (.slice A.vd m.v.ds.length A.ed) := (HX.out _ hb5).cell rfl)
                | (go_at_call 26; (with_reducible refine (mhas8 HF HR8).mono ?_); rintro e wz ⟨rfl, rfl⟩)
                | (go_at_call 44; (with_reducible refine (VC.out _ hb5).mono ?_); rintro e w6 ⟨rfl, hb6⟩))
              go_meet
              exact ⟨ret_val (by rw [← HO4.out]; unfold o4B; rw [HR7.out, HK0.out, HR8.out, HKR.out]; rfl), hb6⟩
            case true =>
              go_wp2_with (first
                | (go_at_call 26; (with_reducible refine (mhas7 HF HR7).mono ?_); rintro e wz ⟨rfl, rfl⟩)
                | (refine wpList_loadMCw xm (by rfl) rfl rfl ?_)
                | (go_at_call 77; (with_reducible refine (CK.out _ H4).mono ?_); rintro e w5 ⟨rfl, hb5⟩; have a24 : w5.cell? ⟨w.heap.size, 24, none⟩ = some (.int .u64 m.v.id) := (HX.out _ hb5).cell rfl; have a25 : w5.cell? ⟨w.heap.size, 25, none⟩ = some (.slice A.vm m.v.ms.length A.em) := (HX.out _ hb5).cell rfl; have a26 : w5.cell? ⟨w.heap.size, 26, none⟩ = some (.slice A.vl m.v.ls.length A.el) := (HX.out _ hb5).cell rfl; have a27 : w5.cell? ⟨w.heap.size, 27, none⟩ = some (.slice A.vd m.v.ds.length A.ed) := (HX.out _ hb5).cell rfl)
                | (go_at_call 26; (with_reducible refine (mhas8 HF HR8).mono ?_); rintro e wz ⟨rfl, rfl⟩)
                | (go_at_call 44; (with_reducible refine (VC.out _ hb5).mono ?_); rintro e w6 ⟨rfl, hb6⟩))
              go_meet
              exact ⟨ret_val (by rw [← HO4.out]; unfold o4B; rw [HR7.out, HK0.out, HR8.out, HKR.out]; rfl), hb6⟩
  case rest =>
  obtain ⟨rfl, hb5⟩ := hcut
  rename World => w5
  have HB5 := hid (HB1.out.trans (hb5.mono HB1.out.size))
  have HM : Hid (msgChk m = o4) := hid (by
    rw [msgChk_o, ← HO4.out, ← HO3.out, ← HO2.out, ← HO1.out]
    simp only [Bool.and_assoc])
  clear hb5
  cases o4
  all_goals (
    go_wp2
    go_ret
    exact ⟨by rw [HM.out]; rfl, HB5.out⟩)
end Go.Proofs.YtppapeoainafbaaGreatDoor


