/- Parts of the proof: X47 X48. -/
import Derived.Test.YtbpfhclcjedkcaaX46
namespace Go.Proofs.Ytbpfhclcjedkcaa
open Go.RowKit

/-! ### the reference's forms -/
theorem at_is {a : Option Addr} {c nm : Nat} {xs : List Pid} {x y : Int} {A : Int} {w : World} (hA : Hid (atIx xs (x, y) = A)) (hn : Hid (xs.length = nm)) (hl : nm ≤ 1000) (hrow : PidRow w a xs) :
   Calls Try.prog 178 #[.slice a nm c, .agg #[.int .u16 x, .int .u32 y]] w fun e w' => e = .returned (.int .i64 A) ∧ Below w.heap.size w w' := by
  have hn := hn.out; subst hn
  have := at_any a c xs x y w (by omega) hrow
  rw [hA.out] at this; exact this
set_option maxRecDepth 100000 in
set_option maxHeartbeats 3200000 in
theorem ranksR_any {am a : Option Addr} {cm c nm n : Nat} {ms l : List Pid} {w : World} (hnm : Hid (ms.length = nm)) (hn : Hid (l.length = n)) (hml : nm ≤ 1000) (hnl : n ≤ 1000) (hin : ∀ p ∈ l, p ∈ ms) (hrm : PidRow w am ms) (hrow : PidRow w a l) :
    Calls Try.prog 188 #[.slice am nm cm, .slice a n c] w fun e w' => ∃ v, e = .returned v ∧ OwnB w' w.heap.size v (placesF ms l) ∧ Below w.heap.size w w' := by
  have ewn : IntKind.u64.wrap ((n : Nat) : Int) = ((n : Nat) : Int) := by rw [IntKind.wrap_u64]; omega
  have C1 := hid (numR_any (w := w) n (by omega))
  have ln := short_len10 (n := n) (by omega)
  obtain ⟨B, hB⟩ : ∃ B, short n = B := ⟨_, rfl⟩
  rw [hB] at C1 ln
  have HE : Hid (placesF ms l = B ++ l.flatMap (rankF ms)) := hid (by unfold placesF; rw [hn.out, hB])
  have HIN := hid hin
  have HRM := hid hrm
  have HROW := hid hrow
  have hfl : Hid (∀ q : List Pid, (q.flatMap (rankF ms)).length ≤ q.length * 10) := hid (fun q => by
    have := flat_rankS_len (S := ranksL ms) (rankS_bound (by rw [hnm.out]; exact hml)) q
    rw [flat_rankS_F] at this; exact this)
  clear hB hin hrm hrow
  go_enter Try.func188, Try.ntmps188
  go_wp2_with fail
  refine C1.out.mono ?_
  rintro e w1 ⟨v1, rfl, hown1, hb1⟩
  clear C1 ewn
  go_wp2_with fail
  go_loopw [5, 6] (fun v i wr => ∃ k : Nat, k ≤ n ∧ i = .int .i64 k ∧ OwnB wr w.heap.size v (B ++ (l.take k).flatMap (rankF ms)) ∧ Below w.heap.size w wr) (fun _ i _ => n - (intOf i).toNat)
  case atStart => exact ⟨0, Nat.zero_le _, rfl, by simpa using hown1, hb1⟩
  case round =>
    obtain ⟨k, hk, rfl, hown, hb⟩ := hrel
    by_cases hlt : k < n
    · have t1 : decide ((k : Int) < (n : Int)) = true := by simpa using hlt
      have t1' : decide (k < n) = true := by simpa using hlt
      have hkl : k < l.length := by rw [hn.out]; exact hlt
      obtain ⟨pb, po, x, y, rfl, hx, d1, d2⟩ := HROW.out.at hb rfl hkl
      have hmem : (x, y) ∈ ms := HIN.out _ (by rw [hx]; exact List.getElem_mem _)
      obtain ⟨h0, h1, -⟩ := atIx_get hmem
      obtain ⟨q, hq⟩ : ∃ q : Nat, atIx ms (x, y) = (q : Int) := ⟨(atIx ms (x, y)).toNat, by omega⟩
      have hql : q < 1000 := by rw [hq] at h1; rw [hnm.out] at h1; simp at h1; omega
      have CA := hid (at_is (c := cm) (hid hq) hnm hml (HRM.out.ext hb))
      have ewq : IntKind.u64.wrap ((q : Nat) : Int) = ((q : Nat) : Int) := by rw [IntKind.wrap_u64]; omega
      have HT : Hid ((B ++ (l.take k).flatMap (rankF ms)) ++ short q = B ++ (l.take (k + 1)).flatMap (rankF ms)) := hid (by
        rw [List.take_succ_eq_append_getElem hkl, List.flatMap_append, ← hx]
        simp [rankF, hq])
      have hlen : (B ++ (l.take k).flatMap (rankF ms)).length ≤ 20000 := by
        have := hfl.out (l.take k)
        rw [List.length_take] at this
        rw [List.length_append]; omega
      have hlq := short_len10 (n := q) (by omega)
      have HOWN := hid hown
      have HB := hid hb
      have HLT := hid hlt
      have HLEN := hid (And.intro hlen hlq)
      obtain ⟨NQ, hNQ⟩ : ∃ N, (short q).length = N := ⟨_, rfl⟩
      have HNQ := hid hNQ
      have hNQl : NQ ≤ 10 := by omega
      clear hown hb hlt hx hmem h0 h1 hlen hlq hNQ hq
      go_wp2_with fail
      refine CA.out.mono ?_
      rintro e w2 ⟨rfl, hb2⟩
      have CN := hid (numR_any (w := w2) q (by omega))
      have HB2 := hid (HB.out.trans (hb2.mono HB.out.size))
      have HO2 := hid (HOWN.out.ext hb2)
      clear CA hb2 d1 d2
      go_wp2_with fail
      refine CN.out.mono ?_
      rintro e w3 ⟨v3, rfl, hown3, hb3⟩
      obtain ⟨q3, k3, e3, hr3, -⟩ := hown3.row
      rw [HNQ.out] at e3
      subst e3
      have ho3 := HO2.out.ext hb3
      have hbs3 := HB2.out.trans (hb3.mono HB2.out.size)
      clear CN
      go_wp2_with (at_builtin; refine wpList_appendB ho3 hr3 HNQ (by have := HLEN.out.1; omega) hbs3.size rfl rfl rfl rfl ?_; intro v4 w4 hown4 hg4 hat4; rw [HT.out] at hown4; have hb4 := below_of_grown hbs3 hg4 ho3 hbs3.size (Nat.le_refl _); clear hat4)
      go_roundw
      case rel => exact ⟨k + 1, by have := HLT.out; omega, by have := HLT.out; go_num, hown4, hb4⟩
      case measure => have := HLT.out; simp [intOf]; omega
    · have t1 : decide ((k : Int) < (n : Int)) = false := by simpa using hlt
      have t1' : decide (k < n) = false := by simpa using hlt
      have ho := hown
      rw [List.take_of_length_le (by rw [hn.out]; omega), ← HE.out] at ho
      go_wp2
      go_ret
      exact ⟨_, rfl, ho, hb⟩

set_option maxRecDepth 100000 in
set_option maxHeartbeats 12800000 in
theorem viewFormR_any {V : View} {i nm nl nd : Nat} {am al ad : Option Addr} {cm cl cd : Nat} {w : World} (hi : V.id = (i : Int)) (hV : ViewR w am al ad V) (hnm : Hid (V.ms.length = nm)) (hnl : Hid (V.ls.length = nl)) (hnd : Hid (V.ds.length = nd)) (hL : Laid V) (hc : refCheckB V = true) :
    Calls Try.prog 112 #[.agg #[.int .u64 i, .slice am nm cm, .slice al nl cl, .slice ad nd cd]] w fun e w' => ∃ v, e = .returned v ∧ OwnB w' w.heap.size v (viewF V) ∧ Below w.heap.size w w' := by
  have hB1 : Below w.heap.size w (w.alloc (.cells #[.int .u64 i, .slice am nm cm, .slice al nl cl, .slice ad nd cd] 33)) := (Below.refl _ _).alloc (Nat.le_refl _) _
  have x1 : BoxV (w.alloc (.cells #[.int .u64 i, .slice am nm cm, .slice al nl cl, .slice ad nd cd] 33)) w.heap.size (.int .u64 i) (.slice am nm cm) (.slice al nl cl) (.slice ad nd cd) := BoxV.made _ _ _ _ _ _
  obtain ⟨W1, hW1⟩ : ∃ W1, w.alloc (.cells #[.int .u64 i, .slice am nm cm, .slice al nl cl, .slice ad nd cd] 33) = W1 := ⟨_, rfl⟩
  rw [hW1] at hB1 x1
  have hV1 := hV.ext hB1
  have hid1 := hL.id1
  have hm24 : nm ≤ 24 := by have := hL.lm; rw [hnm.out] at this; exact this
  have hl24 : nl ≤ 24 := by have := hL.ll; rw [hnl.out] at this; exact this
  have hd24 : nd ≤ 24 := by have := hL.ld.2; rw [hnd.out] at this; exact this
  have hsum : lens V.ls ≤ 549755813888 := by
    have h1 := lens_le (n := 24) (fun l hl => (hL.le l hl).2)
    have : lens V.ls ≤ 24 * 24 := Nat.le_trans h1 (Nat.mul_le_mul_right _ hL.ll)
    omega
  have CK : Hid (Calls Try.prog 74 #[.agg #[.int .u64 i, .slice am nm cm, .slice al nl cl, .slice ad nd cd]] W1 fun e w' => e = .returned (.bool true) ∧ Below W1.heap.size W1 w') := hid (by
    have := refCheck_is (cm := cm) (cl := cl) (cd := cd) (hid hc) hV1 hsum
    rw [hi, hnm.out, hnl.out, hnd.out] at this; exact this)
  have hi62 : i ≤ 4611686018427387904 := by omega
  have HL := hid hL
  have HI := hid hi
  have HB1 := hid hB1
  have HV1 := hid hV1
  have XW : Hid (∀ W, Below W1.heap.size W1 W → BoxV W w.heap.size (.int .u64 i) (.slice am nm cm) (.slice al nl cl) (.slice ad nd cd)) := hid fun W h => x1.ext h
  obtain ⟨y0, y1, y2, y3, -, -, -, -⟩ := id x1
  have ewl : IntKind.u64.wrap ((nl : Nat) : Int) = ((nl : Nat) : Int) := by rw [IntKind.wrap_u64]; omega
  have HFL := hid (flat_places_len (ms := V.ms) (by rw [hnm.out]; omega))
  clear hL hi hB1 hV1 hV x1 hc hsum hid1
  go_enter Try.func112, Try.ntmps112
  go_wp2_with fail
  (with_reducible refine CK.out.mono ?_)
  rintro e w2 ⟨rfl, hb2⟩
  have HB2 := hid hb2
  have H0 : Below W1.heap.size W1 w2.drew := hb2.drew
  have HS : Hid (∀ W, Below W1.heap.size W1 W → (W.cell? ⟨w.heap.size, 0, none⟩ = some (.int .u64 i) ∧ W.cell? ⟨w.heap.size, 1, none⟩ = some (.slice am nm cm) ∧ W.cell? ⟨w.heap.size, 2, none⟩ = some (.slice al nl cl) ∧ W.cell? ⟨w.heap.size, 3, none⟩ = some (.slice ad nd cd))) := hid fun W h => ⟨(XW.out W h).c0, (XW.out W h).c1, (XW.out W h).c2, (XW.out W h).c3⟩
  have CN : Hid (∀ W, Calls Try.prog 107 #[.int .u64 i] W fun e w' => ∃ v, e = .returned v ∧ OwnB w' W.heap.size v (short i) ∧ Below W.heap.size W w') := hid fun W => numR_any i (by omega)
  have CP : Hid (∀ W, Below W1.heap.size W1 W → Calls Try.prog 124 #[.slice am nm cm] W fun e w' => ∃ v, e = .returned v ∧ OwnB w' W.heap.size v (pidsF V.ms) ∧ Below W.heap.size W w') := hid fun W h => pidsR_any hnm (by omega) HL.out.wf (HV1.out.ms.ext h)
  have lni := short_len10 (n := i) (by omega)
  have lnl := short_len10 (n := nl) (by omega)
  have hpl : (pidsF V.ms).length ≤ 20010 := by
    have h1 := flat_pidF_len HL.out.wf
    have h2 := short_len10 (n := V.ms.length) (by rw [hnm.out]; omega)
    have h3 := HL.out.lm
    unfold pidsF; rw [List.length_append]; omega
  obtain ⟨NP, hNP⟩ : ∃ N, (pidsF V.ms).length = N := ⟨_, rfl⟩
  have HNP := hid hNP
  rw [hNP] at hpl
  clear CK hb2 hNP hW1
  clear y0 y1 y2 y3
  go_wp2_with fail

  refine wp_region_held_drew (S := fun W => W.cell? ⟨w.heap.size, 0, none⟩ = some (.int .u64 i) ∧ W.cell? ⟨w.heap.size, 1, none⟩ = some (.slice am nm cm) ∧ W.cell? ⟨w.heap.size, 2, none⟩ = some (.slice al nl cl) ∧ W.cell? ⟨w.heap.size, 3, none⟩ = some (.slice ad nd cd)) (by kernel_rfl) (HS.out _ H0) (fun hHeld => ?_)
  refine wpAnyH_take (i := 0) (oi := _) (v := .pointer (some ⟨w.heap.size, 0, none⟩)) rfl (by kernel_rfl) (by kernel_rfl) (by kernel_rfl) (fun _ _ _ h => h) (Or.inl ⟨by rfl, ?_⟩) (by assumption) ?_
  · intro W hSw
    try dsimp only at hSw
    go_simp
  try simp only [Act.put, List.getElem_toArray, List.getElem_cons_succ, List.getElem_cons_zero, List.setIfInBounds_toArray, List.set_cons_zero, List.set_cons_succ]
  refine wpAnyH_take (i := 1) (oi := _) (v := .int .u64 i) rfl (by kernel_rfl) (by kernel_rfl) (by kernel_rfl) (fun _ _ _ h => h) (Or.inl ⟨by rfl, ?_⟩) (by assumption) ?_
  · intro W hSw
    try dsimp only at hSw
    go_simp
  try simp only [Act.put, List.getElem_toArray, List.getElem_cons_succ, List.getElem_cons_zero, List.setIfInBounds_toArray, List.set_cons_zero, List.set_cons_succ]
  refine wpAnyH_take (i := 3) (oi := _) (v := .pointer (some ⟨w.heap.size, 1, none⟩)) rfl (by kernel_rfl) (by kernel_rfl) (by kernel_rfl) (fun _ _ _ h => h) (Or.inl ⟨by rfl, ?_⟩) (by assumption) ?_
  · intro W hSw
    try dsimp only at hSw
    go_simp
  try simp only [Act.put, List.getElem_toArray, List.getElem_cons_succ, List.getElem_cons_zero, List.setIfInBounds_toArray, List.set_cons_zero, List.set_cons_succ]
  refine wpAnyH_take (i := 4) (oi := _) (v := .slice am nm cm) rfl (by kernel_rfl) (by kernel_rfl) (by kernel_rfl) (fun _ _ _ h => h) (Or.inl ⟨by rfl, ?_⟩) (by assumption) ?_
  · intro W hSw
    try dsimp only at hSw
    go_simp
  try simp only [Act.put, List.getElem_toArray, List.getElem_cons_succ, List.getElem_cons_zero, List.setIfInBounds_toArray, List.set_cons_zero, List.set_cons_succ]
  refine wpAnyH_ready (rs := [2]) (by kernel_rfl) (by simp) ?_
  refine AllReadyH.cons (o := _) rfl (fun K hK => ?_) AllReadyH.nil
  go_simp
  refine (CN.out _).mono ?_
  rintro e w3 ⟨v3, rfl, hown3, hb3⟩
  have h23 := H0.trans (hb3.mono H0.size)
  refine hK.out _ _ (HS.out _ (h23)) (fun hHeld => ?_)
  clear hK K
  try simp only [Act.put, List.getElem_toArray, List.getElem_cons_succ, List.getElem_cons_zero, List.setIfInBounds_toArray, List.set_cons_zero, List.set_cons_succ]
  refine wpAnyH_ready (rs := [5]) (by kernel_rfl) (by simp) ?_
  refine AllReadyH.cons (o := _) rfl (fun K hK => ?_) AllReadyH.nil
  go_simp
  refine (CP.out _ h23).mono ?_
  rintro e w4 ⟨v4, rfl, hown4, hb4⟩
  obtain ⟨q4, k4, e4, hr4, -⟩ := hown4.row
  rw [HNP.out] at e4
  subst e4
  have h24 := h23.trans (hb4.mono h23.size)
  have ho34 := hown3.ext hb4
  refine hK.out _ _ (HS.out _ (h24)) (fun hHeld => ?_)
  clear hK K
  try simp only [Act.put, List.getElem_toArray, List.getElem_cons_succ, List.getElem_cons_zero, List.setIfInBounds_toArray, List.set_cons_zero, List.set_cons_succ]
  refine wpAnyH_ready (rs := [6]) (by kernel_rfl) (by simp) ?_
  refine AllReadyH.cons (o := _) rfl (fun K hK => ?_) AllReadyH.nil
  refine step_appendB (by rfl) ho34 hr4 HNP (by omega) (by have := hb3.size; have := hb4.size; simp at *; omega) rfl rfl rfl ?_
  intro v5 w5 hown5 hg5
  have h25 : Below W1.heap.size W1 w5 := below_of_grown h24 hg5 ho34 h24.size (by have := H0.size; exact this)
  refine hK.out _ _ (HS.out _ (h25)) (fun hHeld => ?_)
  clear hK K
  try simp only [Act.put, List.getElem_toArray, List.getElem_cons_succ, List.getElem_cons_zero, List.setIfInBounds_toArray, List.set_cons_zero, List.set_cons_succ]
  refine wpAnyH_ready (rs := [7]) (by kernel_rfl) (by simp) ?_
  refine AllReadyH.cons (o := _) rfl (fun K hK => ?_) AllReadyH.nil
  go_simp
  refine hK.out _ _ (HS.out _ (h25)) (fun hHeld => ?_)
  clear hK K
  try simp only [Act.put, List.getElem_toArray, List.getElem_cons_succ, List.getElem_cons_zero, List.setIfInBounds_toArray, List.set_cons_zero, List.set_cons_succ]
  refine wpAnyH_done (by kernel_rfl) ?_ _
  have HO5 := hid (hown5.mono (b' := W1.heap.size) H0.size)
  have HB5 := hid h25
  have CL := hid (numR_any (w := w5) nl (by omega))
  obtain ⟨y0, y1, y2, y3, -, -, -, -⟩ := XW.out _ h25
  clear hHeld CN CP HS hown3 hb3 h23 hown4 hb4 hr4 h24 ho34 hown5 hg5 h25 H0
  go_wp2_with fail
  refine CL.out.mono ?_
  rintro e w6 ⟨v6, rfl, hown6, hb6⟩
  obtain ⟨q6, k6, e6, hr6, -⟩ := hown6.row
  obtain ⟨NL, hNL⟩ : ∃ N, (short nl).length = N := ⟨_, rfl⟩
  rw [hNL] at e6 lnl
  subst e6
  have HNL := hid hNL
  have ho56 := HO5.out.ext hb6
  have h26 := HB5.out.trans (hb6.mono HB5.out.size)
  clear CL y0 y1 y2 y3 ewl hNL
  go_wp2_with (at_builtin; refine wpList_appendB ho56 hr6 HNL (by rw [List.length_append, HNP.out]; omega) h26.size rfl rfl rfl rfl ?_; intro v7 w7 hown7 hg7 hat7; have h27 := below_of_grown h26 hg7 ho56 h26.size (Nat.le_refl _); clear hat7)
  obtain ⟨B, hB⟩ : ∃ B, (short i ++ pidsF V.ms) ++ short nl = B := ⟨_, rfl⟩
  rw [hB] at hown7
  have hBl : B.length ≤ 30000 := by rw [← hB]; simp only [List.length_append]; rw [HNP.out, HNL.out]; omega
  have HE : Hid (viewF V = (B ++ V.ls.flatMap (placesF V.ms)) ++ placesF V.ms V.ds) := hid (by
    unfold viewF; rw [← hB, HI.out, hnl.out]; simp)
  clear hB
  go_loopw [3, 4] (fun v j wr => ∃ k : Nat, k ≤ nl ∧ j = .int .i64 k ∧ OwnB wr W1.heap.size v (B ++ (V.ls.take k).flatMap (placesF V.ms)) ∧ Below W1.heap.size W1 wr) (fun _ j _ => nl - (intOf j).toNat)
  case atStart => exact ⟨0, Nat.zero_le _, rfl, by simpa using hown7, h27⟩
  case round =>
    obtain ⟨k, hk, rfl, hown, hb⟩ := hrel
    have hlen : (B ++ (V.ls.take k).flatMap (placesF V.ms)).length ≤ 300000 := by
      have := HFL.out (V.ls.take k) (fun l hl => by have := (HL.out.le l (List.mem_of_mem_take hl)).2; omega)
      rw [List.length_take] at this
      rw [List.length_append]; omega
    obtain ⟨y0, y1, y2, y3, -, -, -, -⟩ := XW.out _ hb
    obtain ⟨vq, vk, ev, -, -⟩ := hown.row
    obtain ⟨ND, hND⟩ : ∃ N, (B ++ (V.ls.take k).flatMap (placesF V.ms)).length = N := ⟨_, rfl⟩
    rw [hND] at ev hlen
    subst ev
    have HND := hid hND
    by_cases hlt : k < nl
    · have t1 : decide ((k : Int) < (nl : Int)) = true := by simpa using hlt
      have t1' : decide (k < nl) = true := by simpa using hlt
      obtain ⟨bl, ofl, ai, ci, l, rfl, hx, f1, f2⟩ := (HV1.out.ext hb).ls.at (Below.refl _ _) rfl (show k < V.ls.length by rw [hnl.out]; exact hlt)
      have hlm : l ∈ V.ls := by rw [hx]; exact List.getElem_mem _
      have HLL := hid (HL.out.le l hlm)
      have HT : Hid ((B ++ (V.ls.take k).flatMap (placesF V.ms)) ++ placesF V.ms l = B ++ (V.ls.take (k + 1)).flatMap (placesF V.ms)) := hid (by rw [take_places (by rw [hnl.out]; exact hlt) hx]; simp)
      have H0 : Below W1.heap.size W1 wr.drew := hb.drew
      have hs0 : Below wr.heap.size wr wr.drew := (Below.refl _ _).drew
      have HS : Hid (∀ W, Below wr.heap.size wr W → (W.cell? ⟨w.heap.size, 1, none⟩ = some (.slice am nm cm) ∧ W.cell? ⟨w.heap.size, 2, none⟩ = some (.slice (some ⟨bl, ofl, none⟩) nl cl) ∧ W.cell? ⟨bl, ofl + k, none⟩ = some (.slice ai l.length ci))) := hid fun W h => ⟨cell_toB y1 h, cell_toB y2 h, cell_toB f1 h⟩
      have hblk : bl < W1.heap.size := by
        have hh := HV1.out.ls.at (Below.refl _ _) rfl (show k < V.ls.length by rw [hnl.out]; exact hlt)
        obtain ⟨b', o', a', c', l', e', -, f', -⟩ := hh
        cases e'
        exact World.block_lt_of_cell? _ _ f'
      have f1W : W1.cell? ⟨bl, ofl + k, none⟩ = some (.slice ai l.length ci) := (hb.cell (p := ⟨bl, ofl + k, none⟩) hblk).symm.trans f1
      have HSR : Hid (∀ W, Below W1.heap.size W1 W → (W.cell? ⟨w.heap.size, 1, none⟩ = some (.slice am nm cm) ∧ W.cell? ⟨w.heap.size, 2, none⟩ = some (.slice (some ⟨bl, ofl, none⟩) nl cl) ∧ W.cell? ⟨bl, ofl + k, none⟩ = some (.slice ai l.length ci))) := hid fun W h => ⟨(XW.out W h).c1, (XW.out W h).c2, cell_toB f1W h⟩
      have CR : Hid (∀ W, Below wr.heap.size wr W → Calls Try.prog 188 #[.slice am nm cm, .slice ai l.length ci] W fun e w' => ∃ v, e = .returned v ∧ OwnB w' W.heap.size v (placesF V.ms l) ∧ Below W.heap.size W w') := hid fun W h => ranksR_any hnm (hid rfl) (by omega) (by have := HLL.out.2; omega) HLL.out.1 ((HV1.out.ext hb).ms.ext h) (f2.ext h)
      have HOWN := hid hown
      have HB := hid hb
      have HLT := hid hlt
      have hpl2 := placesF_len (ms := V.ms) (l := l) (by rw [hnm.out]; omega) (by have := HLL.out.2; omega)
      obtain ⟨NR, hNR⟩ : ∃ N, (placesF V.ms l).length = N := ⟨_, rfl⟩
      rw [hNR] at hpl2
      have HNR := hid hNR
      clear hx hlm hown hb f2 hNR hND
      go_wp2_with fail

      refine wp_region_held_drew (S := fun W => W.cell? ⟨w.heap.size, 1, none⟩ = some (.slice am nm cm) ∧ W.cell? ⟨w.heap.size, 2, none⟩ = some (.slice (some ⟨bl, ofl, none⟩) nl cl) ∧ W.cell? ⟨bl, ofl + k, none⟩ = some (.slice ai l.length ci)) (by kernel_rfl) (HS.out _ hs0) (fun hHeld => ?_)
      refine wpAnyH_take (i := 0) (oi := _) (v := .slice vq ND vk) rfl (by kernel_rfl) (by kernel_rfl) (by kernel_rfl) (fun _ _ _ h => h) (Or.inl ⟨by rfl, ?_⟩) (by assumption) ?_
      · intro W hSw
        try dsimp only at hSw
        go_simp
      try simp only [Act.put, List.getElem_toArray, List.getElem_cons_succ, List.getElem_cons_zero, List.setIfInBounds_toArray, List.set_cons_zero, List.set_cons_succ]
      refine wpAnyH_take (i := 1) (oi := _) (v := .pointer (some ⟨w.heap.size, 1, none⟩)) rfl (by kernel_rfl) (by kernel_rfl) (by kernel_rfl) (fun _ _ _ h => h) (Or.inl ⟨by rfl, ?_⟩) (by assumption) ?_
      · intro W hSw
        try dsimp only at hSw
        go_simp
      try simp only [Act.put, List.getElem_toArray, List.getElem_cons_succ, List.getElem_cons_zero, List.setIfInBounds_toArray, List.set_cons_zero, List.set_cons_succ]
      refine wpAnyH_take (i := 2) (oi := _) (v := .slice am nm cm) rfl (by kernel_rfl) (by kernel_rfl) (by kernel_rfl) (fun _ _ _ h => h) (Or.inl ⟨by rfl, ?_⟩) (by assumption) ?_
      · intro W hSw
        try dsimp only at hSw
        go_simp
      try simp only [Act.put, List.getElem_toArray, List.getElem_cons_succ, List.getElem_cons_zero, List.setIfInBounds_toArray, List.set_cons_zero, List.set_cons_succ]
      refine wpAnyH_take (i := 3) (oi := _) (v := .pointer (some ⟨w.heap.size, 2, none⟩)) rfl (by kernel_rfl) (by kernel_rfl) (by kernel_rfl) (fun _ _ _ h => h) (Or.inl ⟨by rfl, ?_⟩) (by assumption) ?_
      · intro W hSw
        try dsimp only at hSw
        go_simp
      try simp only [Act.put, List.getElem_toArray, List.getElem_cons_succ, List.getElem_cons_zero, List.setIfInBounds_toArray, List.set_cons_zero, List.set_cons_succ]
      refine wpAnyH_take (i := 4) (oi := _) (v := .slice (some ⟨bl, ofl, none⟩) nl cl) rfl (by kernel_rfl) (by kernel_rfl) (by kernel_rfl) (fun _ _ _ h => h) (Or.inl ⟨by rfl, ?_⟩) (by assumption) ?_
      · intro W hSw
        try dsimp only at hSw
        go_simp
      try simp only [Act.put, List.getElem_toArray, List.getElem_cons_succ, List.getElem_cons_zero, List.setIfInBounds_toArray, List.set_cons_zero, List.set_cons_succ]
      refine wpAnyH_take (i := 5) (oi := _) (v := .int .i64 k) rfl (by kernel_rfl) (by kernel_rfl) (by kernel_rfl) (fun _ _ _ h => h) (Or.inl ⟨by rfl, ?_⟩) (by assumption) ?_
      · intro W hSw
        try dsimp only at hSw
        go_simp
      try simp only [Act.put, List.getElem_toArray, List.getElem_cons_succ, List.getElem_cons_zero, List.setIfInBounds_toArray, List.set_cons_zero, List.set_cons_succ]
      refine wpAnyH_take (i := 6) (oi := _) (v := .pointer (some ⟨bl, ofl + k, none⟩)) rfl (by kernel_rfl) (by kernel_rfl) (by kernel_rfl) (fun _ _ _ h => h) (Or.inl ⟨by rfl, ?_⟩) (by assumption) ?_
      · intro W hSw
        try dsimp only at hSw
        go_simp
      try simp only [Act.put, List.getElem_toArray, List.getElem_cons_succ, List.getElem_cons_zero, List.setIfInBounds_toArray, List.set_cons_zero, List.set_cons_succ]
      refine wpAnyH_take (i := 7) (oi := _) (v := .slice ai l.length ci) rfl (by kernel_rfl) (by kernel_rfl) (by kernel_rfl) (fun _ _ _ h => h) (Or.inl ⟨by rfl, ?_⟩) (by assumption) ?_
      · intro W hSw
        try dsimp only at hSw
        go_simp
      try simp only [Act.put, List.getElem_toArray, List.getElem_cons_succ, List.getElem_cons_zero, List.setIfInBounds_toArray, List.set_cons_zero, List.set_cons_succ]
      refine wpAnyH_ready (rs := [8]) (by kernel_rfl) (by simp) ?_
      refine AllReadyH.cons (o := _) rfl (fun K hK => ?_) AllReadyH.nil
      go_simp
      refine (CR.out _ hs0).mono ?_
      rintro e w8 ⟨v8, rfl, hown8, hb8⟩
      obtain ⟨q8, k8, e8, hr8, -⟩ := hown8.row
      rw [HNR.out] at e8
      subst e8
      have hs8 := hs0.trans (hb8.mono hs0.size)
      have ho8 := HOWN.out.ext hs8
      have hB8 := HB.out.trans (hs8.mono HB.out.size)
      refine hK.out _ _ (HS.out _ (hs8)) (fun hHeld => ?_)
      clear hK K
      try simp only [Act.put, List.getElem_toArray, List.getElem_cons_succ, List.getElem_cons_zero, List.setIfInBounds_toArray, List.set_cons_zero, List.set_cons_succ]
      refine wpAnyH_ready (rs := [9]) (by kernel_rfl) (by simp) ?_
      refine AllReadyH.cons (o := _) rfl (fun K hK => ?_) AllReadyH.nil
      refine step_appendB (by rfl) ho8 hr8 HNR (by rw [HND.out]; omega) hB8.size rfl rfl rfl ?_
      intro v9 w9 hown9 hg9
      rw [HT.out] at hown9
      have h29 : Below W1.heap.size W1 w9 := below_of_grown hB8 hg9 ho8 hB8.size (Nat.le_refl _)
      refine hK.out _ _ (HSR.out _ (h29)) (fun hHeld => ?_)
      clear hK K
      try simp only [Act.put, List.getElem_toArray, List.getElem_cons_succ, List.getElem_cons_zero, List.setIfInBounds_toArray, List.set_cons_zero, List.set_cons_succ]
      refine wpAnyH_ready (rs := [10]) (by kernel_rfl) (by simp) ?_
      refine AllReadyH.cons (o := _) rfl (fun K hK => ?_) AllReadyH.nil
      go_simp
      refine hK.out _ _ (HSR.out _ (h29)) (fun hHeld => ?_)
      clear hK K
      try simp only [Act.put, List.getElem_toArray, List.getElem_cons_succ, List.getElem_cons_zero, List.setIfInBounds_toArray, List.set_cons_zero, List.set_cons_succ]
      refine wpAnyH_done (by kernel_rfl) ?_ _
      go_wp2
      go_roundw
      case rel => exact ⟨k + 1, by have := HLT.out; omega, by have := HLT.out; go_num, hown9, h29⟩
      case measure => have := HLT.out; simp [intOf]; omega
    · have t1 : decide ((k : Int) < (nl : Int)) = false := by simpa using hlt
      have t1' : decide (k < nl) = false := by simpa using hlt
      have CR := hid (ranksR_any (cm := cm) (c := cd) hnm hnd (by omega) (by omega) HL.out.ld.1 (HV1.out.ext hb).ms (HV1.out.ext hb).ds)
      have HOWN := hid hown
      have HB := hid hb
      have hpl2 := placesF_len (ms := V.ms) (l := V.ds) (by rw [hnm.out]; omega) (by rw [hnd.out]; omega)
      obtain ⟨NR, hNR⟩ : ∃ N, (placesF V.ms V.ds).length = N := ⟨_, rfl⟩
      rw [hNR] at hpl2
      have HNR := hid hNR
      have HTK : Hid ((V.ls.take k) = V.ls) := hid (List.take_of_length_le (by rw [hnl.out]; omega))
      clear hown hb hlt hNR hND
      go_wp2_with fail
      refine CR.out.mono ?_
      rintro e w8 ⟨v8, rfl, hown8, hb8⟩
      obtain ⟨q8, k8, e8, hr8, -⟩ := hown8.row
      rw [HNR.out] at e8
      subst e8
      have ho8 := HOWN.out.ext hb8
      have hB8 := HB.out.trans (hb8.mono HB.out.size)
      clear CR
      go_wp2_with (at_builtin; refine wpList_appendB ho8 hr8 HNR (by rw [HND.out]; omega) hB8.size rfl rfl rfl rfl ?_; intro v9 w9 hown9 hg9 hat9; have h29 := below_of_grown hB8 hg9 ho8 hB8.size (Nat.le_refl _); clear hat9)
      go_ret
      rw [HTK.out] at hown9
      exact ⟨_, rfl, by rw [HE.out]; exact hown9.mono HB1.out.size, HB1.out.trans (h29.mono HB1.out.size)⟩
end Go.Proofs.Ytbpfhclcjedkcaa

namespace Go.Proofs.Ytbpfhclcjedkcaa
open Go.RowKit

/-! ### the reference's form of a command -/
theorem numR_z {w : World} (m : Nat) {z : Int} (hz : z = (m : Int)) (hm : m < 18446744073709551616) :
    Calls Try.prog 107 #[.int .u64 z] w fun e w' => ∃ v, e = .returned v ∧ OwnB w' w.heap.size v (short m) ∧ Below w.heap.size w w' := by
  subst hz; exact numR_any m hm
set_option maxRecDepth 100000 in
set_option maxHeartbeats 6400000 in
theorem cmdFormR_any {A : CmdD} {da am al ad : Option Addr} {dc cm cl cd : Nat} {w : World} (hA : CmdIn w da am al ad A) (hdl : A.data.length ≤ 400) (hc : cmdChk A = 0) :
   Calls Try.prog 111 #[.agg (cmdL da am al ad dc cm cl cd A)] w fun e w' => ∃ v, e = .returned v ∧ OwnB w' w.heap.size v (cmdF A) ∧ Below w.heap.size w w' := by
  have hB1 : Below w.heap.size w (w.alloc (.cells (cmdL da am al ad dc cm cl cd A) 44)) := (Below.refl _ _).alloc (Nat.le_refl _) _
  have XA : Hid (CmdBox (w.alloc (.cells (cmdL da am al ad dc cm cl cd A) 44)) w.heap.size A da am al ad dc cm cl cd) := hid (CmdBox.made (c := A) w)
  have hl : ∀ (x : CmdD) (da am al ad : Option Addr) (dc cm cl cd : Nat), cmdL da am al ad dc cm cl cd x = #[.int .i64 x.kind, .int .u16 x.fr.1, .int .u32 x.fr.2, .int .u64 x.num, .int .u64 x.vw, .slice da x.data.length dc, .int .u64 x.v.id, .slice am x.v.ms.length cm, .slice al x.v.ls.length cl, .slice ad x.v.ds.length cd] := fun _ _ _ _ _ _ _ _ _ => rfl
  have HA := hid hA
  obtain ⟨CL, hCL⟩ : ∃ CL, cmdL da am al ad dc cm cl cd A = CL := ⟨_, rfl⟩
  rw [hCL] at XA hB1 ⊢
  rw [hl] at hCL
  obtain ⟨a0, a1, a2, a3, a4, a5, a6, a7, a8, a9⟩ := id XA.out
  clear a1 a2 a3 a4 a5 a6 a7 a8 a9 hl
  rcases cmdChk_kinds hc with hk | ⟨hk, hnum, hvw, hdl2⟩ | ⟨hk, hrc⟩
  · have HF := hid (cmdF_1 hk)
    have HK := hid hk
    rw [hk] at a0 hCL
    subst hCL
    have e1 : IntKind.u64.wrap (1 : Int) = 1 := by decide
    obtain ⟨W1, hW1⟩ : ∃ W1, w.alloc (.cells #[.int .i64 1, .int .u16 A.fr.1, .int .u32 A.fr.2, .int .u64 A.num, .int .u64 A.vw, .slice da A.data.length dc, .int .u64 A.v.id, .slice am A.v.ms.length cm, .slice al A.v.ls.length cl, .slice ad A.v.ds.length cd] 44) = W1 := ⟨_, rfl⟩
    rw [hW1] at XA hB1 a0
    have N1 := hid (numR_z (w := W1) 1 (z := 1) rfl (by decide))
    clear hc hk hA
    go_enter Try.func111, Try.ntmps111
    go_wp2_with fail
    (with_reducible refine N1.out.mono ?_)
    rintro e w3 ⟨v3, rfl, hown3, hb3⟩
    have X3 := hid (XA.out.ext hb3 XA.out.lt)
    have HB3 := hid (hB1.trans (hb3.mono hB1.size))
    have HO3 := hid (hown3.mono hB1.size)
    clear a0 N1 hb3 hown3 hB1 hW1 XA
    have c0 := X3.out.c0
    rw [HK.out] at c0
    go_wp2
    go_ret
    exact ⟨_, rfl, by rw [HF.out]; exact HO3.out, HB3.out⟩
  · obtain ⟨x, y, hx, hy, hx2, hy2⟩ := nat_pid (x := A.fr.1) (y := A.fr.2) hA.fr
    have HF := hid (cmdF_2 (x := x) (y := y) hk (by rw [← hx, ← hy]))
    have HK := hid hk
    have HX1 := hid hx
    have HY1 := hid hy
    rw [hk, hx, hy] at hCL
    rw [hk] at a0
    subst hCL
    have e1 : IntKind.u64.wrap (2 : Int) = 2 := by decide
    have ln0 := short_len10 (n := 2) (by decide)
    have ln1 := short_len10 (n := x) (by omega)
    have ln2 := short_len10 (n := y) (by omega)
    have ln3 := short_len10 (n := A.num) (by omega)
    have ln4 := short_len10 (n := A.vw) (by omega)
    have ln5 := short_len10 (n := A.data.length) (by omega)
    obtain ⟨W1, hW1⟩ : ∃ W1, w.alloc (.cells #[.int .i64 2, .int .u16 x, .int .u32 y, .int .u64 A.num, .int .u64 A.vw, .slice da A.data.length dc, .int .u64 A.v.id, .slice am A.v.ms.length cm, .slice al A.v.ls.length cl, .slice ad A.v.ds.length cd] 44) = W1 := ⟨_, rfl⟩
    rw [hW1] at XA hB1 a0
    have N1 := hid (numR_z (w := W1) 2 (z := 2) rfl (by decide))
    have XW : Hid (∀ W, Below W1.heap.size W1 W → CmdBox W w.heap.size A da am al ad dc cm cl cd) := hid fun W h => XA.out.ext h XA.out.lt
    have HB1 := hid hB1
    have L1 : Hid ((short x ++ short y).length = (short x ++ short y).length) := hid rfl
    obtain ⟨M1, hM1⟩ : ∃ M, (short x ++ short y).length = M := ⟨_, rfl⟩
    obtain ⟨M2, hM2⟩ : ∃ M, (short A.num).length = M := ⟨_, rfl⟩
    obtain ⟨M3, hM3⟩ : ∃ M, (short A.vw).length = M := ⟨_, rfl⟩
    obtain ⟨M4, hM4⟩ : ∃ M, (short A.data.length ++ A.data).length = M := ⟨_, rfl⟩
    have HM1 := hid hM1
    have HM2 := hid hM2
    have HM3 := hid hM3
    have HM4 := hid hM4
    have hs1 : M1 ≤ 20 := by rw [← hM1, List.length_append]; omega
    have hs4 : M4 ≤ 410 := by rw [← hM4, List.length_append]; omega
    have hs2 : M2 ≤ 10 := by omega
    have hs3 : M3 ≤ 10 := by omega
    clear hc hk hA hx hy hM1 hM2 hM3 hM4 L1 XA
    go_enter Try.func111, Try.ntmps111
    go_wp2_with fail
    (with_reducible refine N1.out.mono ?_)
    rintro e w3 ⟨v3, rfl, hown3, hb3⟩
    have c0 := (XW.out _ hb3).c0
    have c1 := (XW.out _ hb3).c1
    have c2 := (XW.out _ hb3).c2
    rw [HK.out] at c0
    rw [HX1.out] at c1
    rw [HY1.out] at c2
    have P1 := hid (pidPutR_is (w := w3) (hid rfl) HM1 hx2 hy2)
    have HO3 := hid hown3
    have HB3 := hid hb3
    clear a0 N1 hb3 hown3 hB1 hW1
    go_wp2_with fail
    (with_reducible refine P1.out.mono ?_)
    rintro e w4 ⟨q4, k4, rfl, hr4, hb4⟩
    have ho4 := HO3.out.ext hb4
    have hs4' := HB3.out.trans (hb4.mono HB3.out.size)
    clear c0 c1 c2 P1
    go_wp2_with (at_builtin; refine wpList_appendB ho4 hr4 HM1 (by omega) hs4'.size rfl rfl rfl rfl ?_; intro v5 w5 hown5 hg5 hat5; have hb5 := below_of_grown hs4' hg5 ho4 hs4'.size (Nat.le_refl _); clear hat5 hg5 ho4 hs4' hr4 hb4; have c3 := (XW.out _ hb5).c3)
    have N2 := hid (numR_any (w := w5) A.num hnum)
    have HO5 := hid hown5
    have HB5 := hid hb5
    clear hown5 hb5
    (with_reducible refine N2.out.mono ?_)
    rintro e w6 ⟨v6, rfl, hown6, hb6⟩
    obtain ⟨q6, k6, e6, hr6, -⟩ := hown6.row
    rw [HM2.out] at e6
    subst e6
    have ho6 := HO5.out.ext hb6
    have hs6 := HB5.out.trans (hb6.mono HB5.out.size)
    clear c3 N2 hown6
    go_wp2_with (at_builtin; refine wpList_appendB ho6 hr6 HM2 (by rw [List.length_append, HM1.out]; omega) hs6.size rfl rfl rfl rfl ?_; intro v7 w7 hown7 hg7 hat7; have hb7 := below_of_grown hs6 hg7 ho6 hs6.size (Nat.le_refl _); clear hat7 hg7 ho6 hs6 hr6 hb6; have c4 := (XW.out _ hb7).c4)
    have N3 := hid (numR_any (w := w7) A.vw hvw)
    have HO7 := hid hown7
    have HB7 := hid hb7
    clear hown7 hb7
    (with_reducible refine N3.out.mono ?_)
    rintro e w8 ⟨v8, rfl, hown8, hb8⟩
    obtain ⟨q8, k8, e8, hr8, -⟩ := hown8.row
    rw [HM3.out] at e8
    subst e8
    have ho8 := HO7.out.ext hb8
    have hs8 := HB7.out.trans (hb8.mono HB7.out.size)
    clear c4 N3 hown8
    go_wp2_with (at_builtin; refine wpList_appendB ho8 hr8 HM3 (by simp only [List.length_append]; rw [HM2.out]; omega) hs8.size rfl rfl rfl rfl ?_; intro v9 w9 hown9 hg9 hat9; have hb9 := below_of_grown hs8 hg9 ho8 hs8.size (Nat.le_refl _); clear hat9 hg9 ho8 hs8 hr8 hb8; have c5 := (XW.out _ hb9).c5)
    have N4 := hid (bytesR_any (w := w9) (a := da) (c := dc) (n := A.data.length) (hid rfl) (by omega) ((HA.out.dr.ext HB1.out).ext hb9))
    have HO9 := hid hown9
    have HB9 := hid hb9
    clear hown9 hb9
    (with_reducible refine N4.out.mono ?_)
    rintro e w10 ⟨v10, rfl, hown10, hb10⟩
    obtain ⟨q10, k10, e10, hr10, -⟩ := hown10.row
    rw [HM4.out] at e10
    subst e10
    have ho10 := HO9.out.ext hb10
    have hs10 := HB9.out.trans (hb10.mono HB9.out.size)
    clear c5 N4 hown10
    go_wp2_with (at_builtin; refine wpList_appendB ho10 hr10 HM4 (by simp only [List.length_append]; rw [HM2.out, HM3.out]; omega) hs10.size rfl rfl rfl rfl ?_; intro v11 w11 hown11 hg11 hat11; have hb11 := below_of_grown hs10 hg11 ho10 hs10.size (Nat.le_refl _); clear hat11 hg11 ho10 hs10 hr10 hb10; have c0 := (XW.out _ hb11).c0; rw [HK.out] at c0)
    go_ret
    have HE : Hid (cmdF A = (((short 2 ++ (short x ++ short y)) ++ short A.num) ++ short A.vw) ++ (short A.data.length ++ A.data)) := hid (by rw [HF.out]; simp)
    exact ⟨_, rfl, by rw [HE.out]; exact hown11.mono HB1.out.size, HB1.out.trans (hb11.mono HB1.out.size)⟩
  · have HF := hid (cmdF_3 hk)
    have HK := hid hk
    rw [hk] at a0 hCL
    subst hCL
    have HL := hid (hA.laid hrc)
    obtain ⟨i, hi⟩ : ∃ i : Nat, A.v.id = (i : Int) := ⟨A.v.id.toNat, by have := hA.wf.id; omega⟩
    have HI := hid hi
    have e1 : IntKind.u64.wrap (3 : Int) = 3 := by decide
    have ln0 := short_len10 (n := 3) (by decide)
    obtain ⟨W1, hW1⟩ : ∃ W1, w.alloc (.cells #[.int .i64 3, .int .u16 A.fr.1, .int .u32 A.fr.2, .int .u64 A.num, .int .u64 A.vw, .slice da A.data.length dc, .int .u64 A.v.id, .slice am A.v.ms.length cm, .slice al A.v.ls.length cl, .slice ad A.v.ds.length cd] 44) = W1 := ⟨_, rfl⟩
    rw [hW1] at XA hB1 a0
    have N1 := hid (numR_z (w := W1) 3 (z := 3) rfl (by decide))
    have XW : Hid (∀ W, Below W1.heap.size W1 W → CmdBox W w.heap.size A da am al ad dc cm cl cd) := hid fun W h => XA.out.ext h XA.out.lt
    have HB1 := hid hB1
    have HRC := hid hrc
    have hv290 := viewF_small HL.out
    obtain ⟨M1, hM1⟩ : ∃ M, (viewF A.v).length = M := ⟨_, rfl⟩
    rw [hM1] at hv290
    have HM1 := hid hM1
    clear hc hk hA XA hi hrc hM1
    go_enter Try.func111, Try.ntmps111
    go_wp2_with fail
    (with_reducible refine N1.out.mono ?_)
    rintro e w3 ⟨v3, rfl, hown3, hb3⟩
    have c0 := (XW.out _ hb3).c0
    have c6 := (XW.out _ hb3).c6
    have c7 := (XW.out _ hb3).c7
    have c8 := (XW.out _ hb3).c8
    have c9 := (XW.out _ hb3).c9
    rw [HK.out] at c0
    rw [HI.out] at c6
    have P1 := hid (viewFormR_any (w := w3) (cm := cm) (cl := cl) (cd := cd) HI.out ((HA.out.v.ext HB1.out).ext hb3) (hid rfl) (hid rfl) (hid rfl) HL.out HRC.out)
    have HO3 := hid hown3
    have HB3 := hid hb3
    clear a0 N1 hb3 hown3 hB1 hW1
    go_wp2_with fail
    (with_reducible refine P1.out.mono ?_)
    rintro e w4 ⟨v4, rfl, hown4, hb4⟩
    obtain ⟨q4, k4, e4, hr4, -⟩ := hown4.row
    rw [HM1.out] at e4
    subst e4
    have ho4 := HO3.out.ext hb4
    have hs4' := HB3.out.trans (hb4.mono HB3.out.size)
    clear c0 c6 c7 c8 c9 P1 hown4
    go_wp2_with (at_builtin; refine wpList_appendB ho4 hr4 HM1 (by omega) hs4'.size rfl rfl rfl rfl ?_; intro v5 w5 hown5 hg5 hat5; have hb5 := below_of_grown hs4' hg5 ho4 hs4'.size (Nat.le_refl _); clear hat5 hg5 ho4 hs4' hr4 hb4)
    go_ret
    exact ⟨_, rfl, by rw [HF.out]; exact hown5.mono HB1.out.size, HB1.out.trans (hb5.mono HB1.out.size)⟩
end Go.Proofs.Ytbpfhclcjedkcaa

