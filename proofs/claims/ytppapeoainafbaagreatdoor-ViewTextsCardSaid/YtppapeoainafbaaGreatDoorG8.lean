/- Parts of the proof: G8. -/
import Derived.Test.YtppapeoainafbaaGreatDoorZ7
namespace Go.Proofs.YtppapeoainafbaaGreatDoor
open Go.RowKit
/-! ### the reference's Parse of a view -/
def strLen (v : Value) : Nat := match v with | .string b => b.size | _ => 0
theorem strLen_is (s : Str) : strLen (.string ⟨s.toArray⟩) = s.length := bsz s
theorem cut1_len (c : UInt8) (s : Str) : (cut1 c s).1.length ≤ s.length ∧ (cut1 c s).2.length ≤ s.length ∧ (s ≠ [] → (cut1 c s).2.length < s.length) := by
  unfold cut1
  split
  · rename_i h
    refine ⟨by simp; omega, by simp, fun _ => by simp; omega⟩
  · refine ⟨Nat.le_refl _, by simp, fun h => ?_⟩
    cases s
    · exact absurd rfl h
    · simp
def endMR (V : View) (po : Option Pid) (k : Nat) (b : Bool) : Option View :=
  match po with
  | some p => if k ≤ 24 then some (memD V p k b) else none
  | none => none
theorem memR_end (V : View) (w : Str) : memR V w = endMR V (refParseP (cut1 47 w).1) (digF (cut1 47 w).2 % 100) (starB (cut1 47 w).2) := rfl
theorem parseV_cases2 (r : Option Pid) : ∃ x y c : Int, parseV r = .tuple #[.agg #[.int .u16 x, .int .u32 y], .int .i64 c] ∧ ((c = 0 ∧ r = some (x, y)) ∨ (c = 5 ∧ r = none)) := by
  cases r with
  | some p => exact ⟨p.1, p.2, 0, rfl, .inl ⟨rfl, rfl⟩⟩
  | none => exact ⟨0, 0, 5, rfl, .inr ⟨rfl, rfl⟩⟩
structure SmallR (V : View) (n0 k : Nat) : Prop where
  id : V.id = (n0 : Int)
  wf : WfPids V.ms
  ms : V.ms.length = k
  ds : V.ds.length ≤ k
  ls : V.ls.length ≤ 25
  le : ∀ l ∈ V.ls, l.length ≤ k
theorem SmallR.memD {V : View} {n0 k j : Nat} {p : Pid} {b : Bool} (h : SmallR V n0 k) (hp : okP p) (hj : j ≤ 24) : SmallR (memD V p j b) n0 (k + 1) := by
  refine ⟨h.id, fun q hq => ?_, ?_, ?_, ?_, fun l hl => ?_⟩
  · rcases List.mem_append.1 hq with hq | hq
    · exact h.wf q hq
    · rw [List.mem_singleton.1 hq]; exact hp
  · have := h.ms; simp [Go.Proofs.YtppapeoainafbaaGreatDoor.memD]; omega
  · have := h.ds
    unfold Go.Proofs.YtppapeoainafbaaGreatDoor.memD
    simp only
    split
    · simp; omega
    · omega
  · have := h.ls
    have e := putK_len p j V.ls
    show (putK p j V.ls).length ≤ 25
    omega
  · obtain ⟨l', h1, h2⟩ := putK_mem p j V.ls l hl
    have : l'.length ≤ k := by
      rcases h1 with h1 | h1
      · exact h.le l' h1
      · rw [h1]; simp
    rcases h2 with rfl | rfl
    · omega
    · simp; omega
theorem VSt.viewR {w : World} {s n0 k : Nat} {V : View} {vm vl vd : Value} {cs : List Sl} (h : VSt w s V vm vl vd cs) (hs : SmallR V n0 k) (hk : k ≤ 1000) : ∃ am al ad cm cl cd, vm = .slice am V.ms.length cm ∧ vl = .slice al V.ls.length cl ∧ vd = .slice ad V.ds.length cd ∧ ViewR w am al ad V := by
  obtain ⟨am, cm, e1, r1, -⟩ := h.ms.row
  obtain ⟨al, cl, e2, r2⟩ := h.ls.row
  obtain ⟨ad, cd, e3, r3, -⟩ := h.ds.row
  exact ⟨am, al, ad, cm, cl, cd, e1, e2, e3, r1, r2, r3, by have := hs.ms; omega, by have := hs.ls; omega, by have := hs.ds; omega, fun l hl => by have := hs.le l hl; omega⟩
theorem refParse_okP {s : Str} {p : Pid} (h : refParseP s = some p) : okP p := by rw [← parse_eq] at h; exact parse_okP h
theorem foldR_step {n : Nat} {V V' : View} {rest : Str} (h : rest ≠ []) (hm : memR V (cut1 32 rest).1 = some V') : foldR (n + 1) V rest = foldR n V' (cut1 32 rest).2 := by
  rw [foldR, if_neg h, hm]
theorem foldR_bad {n : Nat} {V : View} {rest : Str} (h : rest ≠ []) (hm : memR V (cut1 32 rest).1 = none) : foldR (n + 1) V rest = none := by
  rw [foldR, if_neg h, hm]
theorem foldR_nil {n : Nat} {V : View} : foldR n V [] = some V := by
  cases n with
  | zero => rfl
  | succ n => rw [foldR, if_pos rfl]
theorem foldl_digN_lt : ∀ (s : Str) (n : Nat), n < 18446744073709551616 → s.foldl digN n < 18446744073709551616
  | [], n, h => h
  | c :: r, n, h => foldl_digN_lt r _ (digN_lt h)
theorem digF_lt (s : Str) : digF s < 18446744073709551616 := foldl_digN_lt _ 0 (by decide)
set_option maxRecDepth 100000 in
set_option maxHeartbeats 12800000 in
theorem viewParseR_any (s : Str) (hs : s.length ≤ 100000) (w : World) {r : Option View} (hr : Hid (viewOfR s = r)) :
    Calls Tryz.prog 15 #[.string ⟨s.toArray⟩] w fun e w' => ParseRes w w' r e := by
  obtain ⟨W1, hW1⟩ : ∃ W1, w.alloc (.cells #[.int .u64 0, .slice none 0 0, .slice none 0 0, .slice none 0 0] 33) = W1 := ⟨_, rfl⟩
  have hb1 : Below w.heap.size w W1 := by rw [← hW1]; exact (Below.refl _ _).alloc (Nat.le_refl _) _
  have hx1 : BoxV W1 w.heap.size (.int .u64 0) (.slice none 0 0) (.slice none 0 0) (.slice none 0 0) := by rw [← hW1]; exact BoxV.made w _ _ _ _ _
  have C1 : Calls Tryz.prog 51 #[.string ⟨s.toArray⟩, .int .u8 32] W1 _ := cut1_any 32 32 rfl s hs W1
  obtain ⟨l1, l2, -⟩ := cut1_len 32 s
  have hre := hr.out.symm
  unfold viewOfR at hre
  obtain ⟨id0, hid0⟩ : ∃ x, (cut1 32 s).1 = x := ⟨_, rfl⟩
  obtain ⟨rest0, hrest0⟩ : ∃ x, (cut1 32 s).2 = x := ⟨_, rfl⟩
  rw [hid0, hrest0] at C1 hre
  rw [hid0] at l1
  rw [hrest0] at l2
  have C2 : Hid (∀ X, Calls Tryz.prog 52 #[.string ⟨id0.toArray⟩] X fun e w' => e = .returned (.int .u64 (digF id0 : Nat)) ∧ Below X.heap.size X w') := hid fun X => digF_any id0 (by omega) X
  obtain ⟨n0, hn0⟩ : ∃ n, digF id0 = n := ⟨_, rfl⟩
  rw [hn0] at C2 hre
  have D1 := hid C1
  have HRE := hid hre
  have HX : Hid (∀ X, Below W1.heap.size W1 X → BoxV X w.heap.size (.int .u64 0) (.slice none 0 0) (.slice none 0 0) (.slice none 0 0)) := hid fun X h => hx1.ext h
  have HB1 := hid hb1
  have HZ1 : Hid (w.heap.size < W1.heap.size) := hid hx1.lt
  have HL0 : Hid (rest0.length ≤ 100000) := hid (by omega)
  clear C1 l1 l2 hre hid0 hrest0 hn0 hb1 hx1 hs
  go_enter Tryz.func15, Tryz.ntmps15
  go_wp2_with fail
  (refine D1.out.mono ?_)
  rintro e w2 ⟨rfl, hb2⟩
  have HB2 := hid hb2
  clear hb2 D1 hW1
  go_wp2_with fail
  (refine (C2.out _).mono ?_)
  rintro e w4 ⟨rfl, hb4⟩
  have HB4 := hid (HB2.out.trans (hb4.mono HB2.out.size))
  obtain ⟨sv, hsv⟩ : ∃ sv, w4.heap.size = sv := ⟨_, rfl⟩
  obtain ⟨W5, hW5⟩ : ∃ W5, w4.alloc (.cells #[.int .u64 n0, .slice none 0 0, .slice none 0 0, .slice none 0 0] 33) = W5 := ⟨_, rfl⟩
  have hb5 : Below w4.heap.size w4 W5 := by rw [← hW5]; exact (Below.refl _ _).alloc (Nat.le_refl _) _
  have hv5 : VSt W5 sv ⟨(n0 : Int), [], [], []⟩ (.slice none 0 0) (.slice none 0 0) (.slice none 0 0) [] := by rw [← hW5, ← hsv]; exact VSt.made w4 _ n0
  have HB5 := hid (HB4.out.trans (hb5.mono HB4.out.size))
  have HLT : Hid (W1.heap.size ≤ sv) := hid (by rw [← hsv]; exact HB4.out.size)
  have HV5 := hid hv5
  have HSV := hid hsv
  have HW5 := hid hW5
  clear hb4 hb5 hv5 hsv hW5 C2 HB4 HB2
  go_wp2_with fail
  rw [HW5.out, HSV.out]
  go_loopw [5] (fun rv wr => ∃ (j : Nat) (V : View) (vm vl vd : Value) (cs : List Sl) (rest : Str), rv = .string ⟨rest.toArray⟩ ∧ j ≤ 25 ∧ Hid (rest.length ≤ 100000) ∧ Hid (foldR 25 ⟨(n0 : Int), [], [], []⟩ rest0 = foldR (25 - j) V rest) ∧ Hid (VSt wr sv V vm vl vd cs) ∧ Hid (SmallR V n0 j) ∧ Hid (Below sv W5 wr)) (fun rv _ => strLen rv)
  case atStart => exact ⟨0, _, _, _, _, _, rest0, rfl, Nat.zero_le _, HL0, hid rfl, HV5, hid ⟨rfl, fun p hp => (by cases hp), rfl, Nat.le_refl _, Nat.zero_le _, fun l hl => (by cases hl)⟩, hid (Below.refl _ _)⟩
  case round =>
    obtain ⟨j, V, vm, vl, vd, cs, rest, rfl, hj, hrl, hf, hv, hsm, hbw⟩ := hrel
    have hba : Below w.heap.size w wr := HB1.out.trans ((HB5.out.mono HB1.out.size).trans (hbw.out.mono (by have := HLT.out; have := HB1.out.size; omega)))
    have hxr := HX.out wr (HB5.out.trans (hbw.out.mono HLT.out))
    obtain ⟨am0, cm, e1, -, -⟩ := hv.out.ms.row
    rw [hsm.out.ms] at e1
    subst e1
    have c1 := hv.out.box.c1
    by_cases hr0 : rest = []
    case pos =>
      subst hr0
      have HR3 : Hid (r = endR s (some V)) := hid (by rw [HRE.out, hf.out, foldR_nil])
      obtain ⟨am, al, ad, cm', cl, cd, ea, rfl, rfl, hvr⟩ := hv.out.viewR hsm.out (by omega)
      rw [hsm.out.ms] at ea
      cases ea
      have hvr' := hvr
      have hsum : lens V.ls ≤ 549755813888 := by
        have h1 := lens_le (n := 25) (fun l hl => by have := hsm.out.le l hl; omega : ∀ l ∈ V.ls, l.length ≤ 25)
        have h2 := hsm.out.ls
        omega
      obtain ⟨c0, c1, c2, c3, -, -, -, -⟩ := id hv.out.box
      rw [hsm.out.id] at c0
      have HBA := hid hba
      have HXR := hid hxr
      have HVR := hid hvr
      have CC := refCheck_any V am0 al ad cm cl cd wr hvr hsum
      rw [hsm.out.id, hsm.out.ms] at CC
      cases hcb : refCheckB V
      case false =>
        rw [hcb] at CC
        have CC := hid CC
        have HN : Hid (r = none) := hid (by rw [HR3.out]; unfold endR; simp [hcb])
        clear hsum hcb hvr hvr' hba hxr
        go_wp2_with fail
        (refine CC.out.mono ?_)
        rintro e w6 ⟨rfl, hb6⟩
        clear c0 c1 c2 c3
        have hxz := HXR.out.ext hb6
        obtain ⟨q0, q1, q2, q3, h0, h1, h2, h3⟩ := id hxz
        have DD := hid (hxz.put (.int .u64 0) (.slice none 0 0) (.slice none 0 0) (.slice none 0 0))
        have HF := hid (ParseRes.no HN.out (HBA.out.trans (hb6.mono HBA.out.size)) (mutV w6 w.heap.size (.int .u64 0) (.slice none 0 0) (.slice none 0 0) (.slice none 0 0)))
        clear hxz
        go_wp2_with fail
        obtain ⟨p0, p1, p2, p3, -, -, -, -⟩ := DD.out
        exact bodyPost_ret (v := .tuple #[.agg #[.int .u64 0, .slice none 0 0, .slice none 0 0, .slice none 0 0], .int .i64 5]) (by simp [results, Tryz.results15, go_sem, p0, p1, p2, p3]) rfl HF.out
      case true =>
        rw [hcb] at CC
        have CC := hid CC
        have hcb2 : checkB V = true := by rw [check_eq _ hsm.out.wf]; exact hcb
        have CP : Hid (∀ X, Below wr.heap.size wr X → Calls Tryz.prog 19 #[.agg #[.int .u64 n0, .slice am0 j cm, .slice al V.ls.length cl, .slice ad V.ds.length cd]] X fun e w' => e = .returned (.string ⟨(viewP V).toArray⟩) ∧ Below X.heap.size X w') := hid fun X h => by
          have := refViewPrint_any (cm := cm) (cl := cl) (cd := cd) hsm.out.id (HVR.out.ext h) hsm.out.wf (hid hcb2)
          rw [hsm.out.ms] at this
          exact this
        have HCB := hid hcb
        clear hsum hcb hcb2 hvr hvr' hba hxr
        go_wp2_with fail
        (refine CC.out.mono ?_)
        rintro e w5 ⟨rfl, hb5⟩
        have HB5' := hid hb5
        have d0 := cell_toB c0 hb5
        have d1 := cell_toB c1 hb5
        have d2 := cell_toB c2 hb5
        have d3 := cell_toB c3 hb5
        clear hb5 c0 c1 c2 c3 CC
        go_wp2_with fail
        (refine (CP.out _ HB5'.out).mono ?_)
        rintro e w6 ⟨rfl, hb6⟩
        have hb6 := HB5'.out.trans (hb6.mono HB5'.out.size)
        have HV6 := hid (hv.out.ext hb6)
        have HVR6 := hid (HVR.out.ext hb6)
        have HX6 := hid (HXR.out.ext hb6)
        have HBA6 := hid (HBA.out.trans (hb6.mono HBA.out.size))
        clear d0 d1 d2 d3
        by_cases heq : viewP V = s
        · have u1 : (viewP V != s) = false := by simp [heq]
          have u2 : (viewP V == s) = true := by simp [heq]
          have HRS : Hid (r = some V) := hid (by rw [HR3.out]; unfold endR; simp [HCB.out, heq])
          have HEQ := hid heq
          obtain ⟨c0, c1, c2, c3, -, -, -, -⟩ := id HV6.out.box
          rw [hsm.out.id] at c0
          obtain ⟨q0, q1, q2, q3, h0, h1, h2, h3⟩ := id HX6.out
          have DD := hid (HX6.out.put (.int .u64 n0) (.slice am0 j cm) (.slice al V.ls.length cl) (.slice ad V.ds.length cd))
          have HMV := hid (mutV w6 w.heap.size (.int .u64 n0) (.slice am0 j cm) (.slice al V.ls.length cl) (.slice ad V.ds.length cd))
          clear hb6 heq CP
          go_wp2_with fail
          obtain ⟨p0, p1, p2, p3, -, -, -, -⟩ := DD.out
          exact bodyPost_ret (v := .tuple #[.agg #[.int .u64 n0, .slice am0 j cm, .slice al V.ls.length cl, .slice ad V.ds.length cd], .int .i64 0]) (by simp [results, Tryz.results15, go_sem, p0, p1, p2, p3]) rfl (by
            have hv6 := HV6.out
            rw [← hsm.out.ms] at hv6
            rw [HRS.out]
            refine ⟨am0, al, ad, cm, cl, cd, by rw [show (resV (some V)) = V from rfl, hsm.out.id, hsm.out.ms]; rfl, ViewR.mutB hv6 HVR6.out HMV.out (by have := HLT.out; have := HZ1.out; omega), below_mutB HBA6.out HMV.out⟩)
        · have u1 : (viewP V != s) = true := by simpa using heq
          have u2 : (viewP V == s) = false := by simpa using heq
          have HN : Hid (r = none) := hid (by rw [HR3.out]; unfold endR; simp [heq])
          clear hb6 heq CP
          have hxz := HX6.out
          obtain ⟨q0, q1, q2, q3, h0, h1, h2, h3⟩ := id hxz
          have DD := hid (hxz.put (.int .u64 0) (.slice none 0 0) (.slice none 0 0) (.slice none 0 0))
          have HF := hid (ParseRes.no HN.out (HBA6.out) (mutV w6 w.heap.size (.int .u64 0) (.slice none 0 0) (.slice none 0 0) (.slice none 0 0)))
          clear hxz
          go_wp2_with fail
          obtain ⟨p0, p1, p2, p3, -, -, -, -⟩ := DD.out
          exact bodyPost_ret (v := .tuple #[.agg #[.int .u64 0, .slice none 0 0, .slice none 0 0, .slice none 0 0], .int .i64 5]) (by simp [results, Tryz.results15, go_sem, p0, p1, p2, p3]) rfl HF.out
    case neg =>
    have u1 : rest.isEmpty = false := by cases rest; exact absurd rfl hr0; rfl
    have u2 : (rest != []) = true := by simpa using hr0
    have u3 : (rest == []) = false := by simpa using hr0
    by_cases hj25 : j = 25
    case pos =>
      have HR3 : Hid (r = endR s (some V)) := hid (by rw [HRE.out, hf.out, hj25]; rfl)
      have d1 : decide ((j : Int) ≤ 24) = false := decide_eq_false (by omega)
      have d2 : decide (j ≤ 24) = false := decide_eq_false (by omega)
      clear hj25
      obtain ⟨am, al, ad, cm', cl, cd, ea, rfl, rfl, hvr⟩ := hv.out.viewR hsm.out (by omega)
      rw [hsm.out.ms] at ea
      cases ea
      have hvr' := hvr
      have hsum : lens V.ls ≤ 549755813888 := by
        have h1 := lens_le (n := 25) (fun l hl => by have := hsm.out.le l hl; omega : ∀ l ∈ V.ls, l.length ≤ 25)
        have h2 := hsm.out.ls
        omega
      obtain ⟨c0, c1, c2, c3, -, -, -, -⟩ := id hv.out.box
      rw [hsm.out.id] at c0
      have HBA := hid hba
      have HXR := hid hxr
      have HVR := hid hvr
      have CC := refCheck_any V am0 al ad cm cl cd wr hvr hsum
      rw [hsm.out.id, hsm.out.ms] at CC
      cases hcb : refCheckB V
      case false =>
        rw [hcb] at CC
        have CC := hid CC
        have HN : Hid (r = none) := hid (by rw [HR3.out]; unfold endR; simp [hcb])
        clear hsum hcb hvr hvr' hba hxr
        go_wp2_with fail
        (refine CC.out.mono ?_)
        rintro e w6 ⟨rfl, hb6⟩
        clear c0 c1 c2 c3
        have hxz := HXR.out.ext hb6
        obtain ⟨q0, q1, q2, q3, h0, h1, h2, h3⟩ := id hxz
        have DD := hid (hxz.put (.int .u64 0) (.slice none 0 0) (.slice none 0 0) (.slice none 0 0))
        have HF := hid (ParseRes.no HN.out (HBA.out.trans (hb6.mono HBA.out.size)) (mutV w6 w.heap.size (.int .u64 0) (.slice none 0 0) (.slice none 0 0) (.slice none 0 0)))
        clear hxz
        go_wp2_with fail
        obtain ⟨p0, p1, p2, p3, -, -, -, -⟩ := DD.out
        exact bodyPost_ret (v := .tuple #[.agg #[.int .u64 0, .slice none 0 0, .slice none 0 0, .slice none 0 0], .int .i64 5]) (by simp [results, Tryz.results15, go_sem, p0, p1, p2, p3]) rfl HF.out
      case true =>
        rw [hcb] at CC
        have CC := hid CC
        have hcb2 : checkB V = true := by rw [check_eq _ hsm.out.wf]; exact hcb
        have CP : Hid (∀ X, Below wr.heap.size wr X → Calls Tryz.prog 19 #[.agg #[.int .u64 n0, .slice am0 j cm, .slice al V.ls.length cl, .slice ad V.ds.length cd]] X fun e w' => e = .returned (.string ⟨(viewP V).toArray⟩) ∧ Below X.heap.size X w') := hid fun X h => by
          have := refViewPrint_any (cm := cm) (cl := cl) (cd := cd) hsm.out.id (HVR.out.ext h) hsm.out.wf (hid hcb2)
          rw [hsm.out.ms] at this
          exact this
        have HCB := hid hcb
        clear hsum hcb hcb2 hvr hvr' hba hxr
        go_wp2_with fail
        (refine CC.out.mono ?_)
        rintro e w5 ⟨rfl, hb5⟩
        have HB5' := hid hb5
        have d0 := cell_toB c0 hb5
        have d1 := cell_toB c1 hb5
        have d2 := cell_toB c2 hb5
        have d3 := cell_toB c3 hb5
        clear hb5 c0 c1 c2 c3 CC
        go_wp2_with fail
        (refine (CP.out _ HB5'.out).mono ?_)
        rintro e w6 ⟨rfl, hb6⟩
        have hb6 := HB5'.out.trans (hb6.mono HB5'.out.size)
        have HV6 := hid (hv.out.ext hb6)
        have HVR6 := hid (HVR.out.ext hb6)
        have HX6 := hid (HXR.out.ext hb6)
        have HBA6 := hid (HBA.out.trans (hb6.mono HBA.out.size))
        clear d0 d1 d2 d3
        by_cases heq : viewP V = s
        · have u1 : (viewP V != s) = false := by simp [heq]
          have u2 : (viewP V == s) = true := by simp [heq]
          have HRS : Hid (r = some V) := hid (by rw [HR3.out]; unfold endR; simp [HCB.out, heq])
          have HEQ := hid heq
          obtain ⟨c0, c1, c2, c3, -, -, -, -⟩ := id HV6.out.box
          rw [hsm.out.id] at c0
          obtain ⟨q0, q1, q2, q3, h0, h1, h2, h3⟩ := id HX6.out
          have DD := hid (HX6.out.put (.int .u64 n0) (.slice am0 j cm) (.slice al V.ls.length cl) (.slice ad V.ds.length cd))
          have HMV := hid (mutV w6 w.heap.size (.int .u64 n0) (.slice am0 j cm) (.slice al V.ls.length cl) (.slice ad V.ds.length cd))
          clear hb6 heq CP
          go_wp2_with fail
          obtain ⟨p0, p1, p2, p3, -, -, -, -⟩ := DD.out
          exact bodyPost_ret (v := .tuple #[.agg #[.int .u64 n0, .slice am0 j cm, .slice al V.ls.length cl, .slice ad V.ds.length cd], .int .i64 0]) (by simp [results, Tryz.results15, go_sem, p0, p1, p2, p3]) rfl (by
            have hv6 := HV6.out
            rw [← hsm.out.ms] at hv6
            rw [HRS.out]
            refine ⟨am0, al, ad, cm, cl, cd, by rw [show (resV (some V)) = V from rfl, hsm.out.id, hsm.out.ms]; rfl, ViewR.mutB hv6 HVR6.out HMV.out (by have := HLT.out; have := HZ1.out; omega), below_mutB HBA6.out HMV.out⟩)
        · have u1 : (viewP V != s) = true := by simpa using heq
          have u2 : (viewP V == s) = false := by simpa using heq
          have HN : Hid (r = none) := hid (by rw [HR3.out]; unfold endR; simp [heq])
          clear hb6 heq CP
          have hxz := HX6.out
          obtain ⟨q0, q1, q2, q3, h0, h1, h2, h3⟩ := id hxz
          have DD := hid (hxz.put (.int .u64 0) (.slice none 0 0) (.slice none 0 0) (.slice none 0 0))
          have HF := hid (ParseRes.no HN.out (HBA6.out) (mutV w6 w.heap.size (.int .u64 0) (.slice none 0 0) (.slice none 0 0) (.slice none 0 0)))
          clear hxz
          go_wp2_with fail
          obtain ⟨p0, p1, p2, p3, -, -, -, -⟩ := DD.out
          exact bodyPost_ret (v := .tuple #[.agg #[.int .u64 0, .slice none 0 0, .slice none 0 0, .slice none 0 0], .int .i64 5]) (by simp [results, Tryz.results15, go_sem, p0, p1, p2, p3]) rfl HF.out
    case neg =>
    have d1 : decide ((j : Int) ≤ 24) = true := decide_eq_true (by omega)
    have d2 : decide (j ≤ 24) = true := decide_eq_true (by omega)
    have CA : Calls Tryz.prog 51 #[.string ⟨rest.toArray⟩, .int .u8 32] wr _ := cut1_any 32 32 rfl rest hrl.out wr
    obtain ⟨l1, l2, l3⟩ := cut1_len 32 rest
    have l3 := l3 hr0
    have hrl' := hrl.out
    obtain ⟨word, hword⟩ : ∃ x, (cut1 32 rest).1 = x := ⟨_, rfl⟩
    obtain ⟨rest', hrest'⟩ : ∃ x, (cut1 32 rest).2 = x := ⟨_, rfl⟩
    have HFS : Hid (∀ V', memR V word = some V' → foldR (25 - j) V rest = foldR (25 - (j + 1)) V' rest') := hid fun V' h => by
      rw [show 25 - j = (25 - (j + 1)) + 1 by omega, foldR_step hr0 (by rw [hword]; exact h), hrest']
    have HFB : Hid (memR V word = none → foldR (25 - j) V rest = none) := hid fun h => by
      rw [show 25 - j = (25 - (j + 1)) + 1 by omega, foldR_bad hr0 (by rw [hword]; exact h)]
    rw [hword, hrest'] at CA
    rw [hword] at l1
    rw [hrest'] at l2 l3
    obtain ⟨l4, l5, -⟩ := cut1_len 47 word
    have CB : Hid (∀ X, Calls Tryz.prog 51 #[.string ⟨word.toArray⟩, .int .u8 47] X fun e w' => e = .returned (.tuple #[.string ⟨(cut1 47 word).1.toArray⟩, .string ⟨(cut1 47 word).2.toArray⟩]) ∧ Below X.heap.size X w') := hid fun X => cut1_any 47 47 rfl word (by omega) X
    have hme := memR_end V word
    obtain ⟨name, hname⟩ : ∃ x, (cut1 47 word).1 = x := ⟨_, rfl⟩
    obtain ⟨leaf, hleaf⟩ : ∃ x, (cut1 47 word).2 = x := ⟨_, rfl⟩
    rw [hname, hleaf] at CB hme
    rw [hname] at l4
    rw [hleaf] at l5
    obtain ⟨po, hpo⟩ : ∃ po, refParseP name = po := ⟨_, rfl⟩
    rw [hpo] at hme
    obtain ⟨x, y, c, hpv, hpc⟩ := parseV_cases2 po
    have CC3 : Hid (∀ X, Calls Tryz.prog 53 #[.string ⟨name.toArray⟩] X fun e w' => e = .returned (.tuple #[.agg #[.int .u16 x, .int .u32 y], .int .i64 c]) ∧ Below X.heap.size X w') := hid fun X => by
      have := refParse_any name (by omega) X (hid hpo)
      rw [hpv] at this
      exact this
    have CD : Hid (∀ X, Calls Tryz.prog 52 #[.string ⟨leaf.toArray⟩] X fun e w' => e = .returned (.int .u64 (digF leaf : Nat)) ∧ Below X.heap.size X w') := hid fun X => digF_any leaf (by omega) X
    have hdl : digF leaf < 18446744073709551616 := digF_lt leaf
    obtain ⟨d, hd⟩ : ∃ d, digF leaf = d := ⟨_, rfl⟩
    rw [hd] at CD hme hdl
    have hok : ∀ p, po = some p → okP p := fun p e => refParse_okP (hpo.trans e)
    have CA := hid CA
    have HME := hid hme
    have HPC := hid hpc
    have HOK := hid hok
    have HLR : Hid (rest'.length < rest.length ∧ rest'.length ≤ 100000 ∧ leaf.length ≤ 100000) := hid ⟨l3, by omega, by omega⟩
    have HJ : Hid (j < 25) := hid (by omega)
    have HBA := hid hba
    have HXR := hid hxr
    clear hba hxr hword hrest' hname hleaf hpo hpv hpc hd hok hme l1 l2 l3 l4 l5 hrl' hr0 hrl hj25
    go_wp2_with fail
    (refine CA.out.mono ?_)
    rintro e wa ⟨rfl, hba⟩
    have HBa := hid hba
    clear hba CA c1 u1 u2 u3 d1 d2
    go_wp2_with fail
    (refine (CB.out _).mono ?_)
    rintro e wb ⟨rfl, hbb⟩
    have HBb := hid (HBa.out.trans (hbb.mono HBa.out.size))
    clear hbb CB HBa
    go_wp2_with fail
    (refine (CC3.out _).mono ?_)
    rintro e wc ⟨rfl, hbc⟩
    have hbc' := HBb.out.trans (hbc.mono HBb.out.size)
    obtain ⟨W3, hW3⟩ : ∃ W3, wc.alloc (.cells #[.int .u16 x, .int .u32 y] 25) = W3 := ⟨_, rfl⟩
    have hbW : Below wc.heap.size wc W3 := by rw [← hW3]; exact (Below.refl _ _).alloc (Nat.le_refl _) _
    have k0 : W3.cell? ⟨wc.heap.size, 0, none⟩ = some (.int .u16 x) := by rw [← hW3]; simp
    have k1 : W3.cell? ⟨wc.heap.size, 1, none⟩ = some (.int .u32 y) := by rw [← hW3]; simp
    obtain ⟨B, hB⟩ : ∃ B, wc.heap.size = B := ⟨_, rfl⟩
    rw [hB] at k0 k1
    have HB3 := hid (hbc'.trans (hbW.mono hbc'.size))
    have HVW := hid (hv.out.ext HB3.out)
    have HHW : Hid (Hold W3 sv B x y (.slice am0 j cm) vl vd cs) := hid (hv.out.hold (by rw [← hB]; exact hbc'.size) k0 k1)
    clear hbc hbc' hbW k0 k1 CC3 HBb
    go_wp2_with fail
    clear hW3 hB
    (refine (CD.out _).mono ?_)
    rintro e w4 ⟨rfl, hb4⟩
    have HB4 := hid (HB3.out.trans (hb4.mono HB3.out.size))
    have HV4 := hid (HVW.out.ext hb4)
    have HH4 := hid (HHW.out.ext hb4)
    have HX4 := hid (HXR.out.ext HB4.out)
    have HBA4 := hid (HBA.out.trans (HB4.out.mono HBA.out.size))
    have HBW4 : Hid (Below sv W5 w4) := hid (hbw.out.trans (HB4.out.mono (by have := hv.out.lt; omega)))
    clear hb4 CD HVW HHW HB3 HB4 HXR HBA
    obtain ⟨k, hk⟩ : ∃ k, d % 100 = k := ⟨_, rfl⟩
    have hkd : (d : Int) % 100 = (k : Int) := by omega
    have i1 : IntKind.i64.wrap ((d : Int) % 100) = (k : Int) := by rw [IntKind.wrap_i64] <;> omega
    have i2 : IntKind.i64.wrap (k : Int) = (k : Int) := by rw [IntKind.wrap_i64] <;> omega
    have hk100 : k < 100 := by omega
    rcases HPC.out with ⟨rfl, hpo⟩ | ⟨rfl, hpo⟩
    rotate_left
    · have HN : Hid (r = none) := hid (by rw [HRE.out, hf.out, HFB.out (by rw [HME.out, hpo]; rfl)]; rfl)
      clear hpo hk
      have hxz := HX4.out
      obtain ⟨q0, q1, q2, q3, h0, h1, h2, h3⟩ := id hxz
      have DD := hid (hxz.put (.int .u64 0) (.slice none 0 0) (.slice none 0 0) (.slice none 0 0))
      have HF := hid (ParseRes.no HN.out (HBA4.out) (mutV w4 w.heap.size (.int .u64 0) (.slice none 0 0) (.slice none 0 0) (.slice none 0 0)))
      clear hxz
      go_wp2_with fail
      obtain ⟨p0, p1, p2, p3, -, -, -, -⟩ := DD.out
      exact bodyPost_ret (v := .tuple #[.agg #[.int .u64 0, .slice none 0 0, .slice none 0 0, .slice none 0 0], .int .i64 5]) (by simp [results, Tryz.results15, go_sem, p0, p1, p2, p3]) rfl HF.out
    by_cases hk24 : 24 < k
    · have HN : Hid (r = none) := hid (by rw [HRE.out, hf.out, HFB.out (by rw [HME.out, hpo, hk]; unfold endMR; simp only; rw [if_neg (by omega)])]; rfl)
      have e1 : decide ((k : Int) > 24) = true := decide_eq_true (by omega)
      have e2 : decide (24 < (k : Int)) = true := decide_eq_true (by omega)
      have e3 : decide (24 < k) = true := decide_eq_true hk24
      clear hpo hk
      have hxz := HX4.out
      obtain ⟨q0, q1, q2, q3, h0, h1, h2, h3⟩ := id hxz
      have DD := hid (hxz.put (.int .u64 0) (.slice none 0 0) (.slice none 0 0) (.slice none 0 0))
      have HF := hid (ParseRes.no HN.out (HBA4.out) (mutV w4 w.heap.size (.int .u64 0) (.slice none 0 0) (.slice none 0 0) (.slice none 0 0)))
      clear hxz
      go_wp2_with fail
      obtain ⟨p0, p1, p2, p3, -, -, -, -⟩ := DD.out
      exact bodyPost_ret (v := .tuple #[.agg #[.int .u64 0, .slice none 0 0, .slice none 0 0, .slice none 0 0], .int .i64 5]) (by simp [results, Tryz.results15, go_sem, p0, p1, p2, p3]) rfl HF.out
    have e1 : decide ((k : Int) > 24) = false := decide_eq_false (by omega)
    have e2 : decide (24 < (k : Int)) = false := decide_eq_false (by omega)
    have e3 : decide (24 < k) = false := decide_eq_false hk24
    obtain ⟨b, hbs⟩ : ∃ b, starB leaf = b := ⟨_, rfl⟩
    have HY : Hid (memR V word = some (memD V (x, y) k b)) := hid (by rw [HME.out, hpo, hk, hbs]; unfold endMR; simp only; rw [if_pos (by omega)])
    have HOKP := hid (HOK.out _ hpo)
    have HK24 : Hid (k < 25) := hid (by omega)
    have HBS := hid hbs
    clear hpo hk hk24 hbs HPC HME HOK HFB HX4 HBA4 hdl hk100
    go_wp2_with fail
    clear e1 e2 e3 i1 i2 hkd
    go_loopw [59] (fun _ wr2 => ∃ (n : Nat) (vl' : Value) (cs' : List Sl), n ≤ k + 1 - V.ls.length ∧ VSt wr2 sv ⟨V.id, V.ms, pad n V.ls, V.ds⟩ (.slice am0 j cm) vl' vd cs' ∧ Hold wr2 sv B x y (.slice am0 j cm) vl' vd cs' ∧ Below sv W5 wr2) (fun _ wr2 => 26 - lenAt wr2 ⟨sv, 2, none⟩)
    case atStart => exact ⟨0, vl, cs, Nat.zero_le _, by have := HV4.out; unfold pad; simpa using this, HH4.out, HBW4.out⟩
    case round =>
      rename World => wr2
      obtain ⟨n, vl', cs', hn, hv2, hh, hbw2⟩ := hrel
      have hpl := pad_len n V.ls
      obtain ⟨M, hM⟩ : ∃ M, V.ls.length + n = M := ⟨_, rfl⟩
      rw [hM] at hpl
      obtain ⟨a, ca, rfl⟩ := hv2.ls.sli hpl
      have c2 := hv2.box.c2
      by_cases hlt : M ≤ k
      · have t1 : decide ((M : Int) ≤ (k : Int)) = true := by simpa using hlt
        have t2 : decide (M ≤ k) = true := by simpa using hlt
        obtain ⟨W6, hW6⟩ : ∃ W6, wr2.alloc (.cells #[.slice none 0 0] 30) = W6 := ⟨_, rfl⟩
        have hb5 : Below wr2.heap.size wr2 W6 := by rw [← hW6]; exact (Below.refl _ _).alloc (Nat.le_refl _) _
        have HC0 : Hid (W6.cell? ⟨wr2.heap.size, 0, none⟩ = some (encS (none, 0, 0))) := hid (by rw [← hW6]; simp [encS])
        have HL5 := hid (hv2.ls.ext hb5)
        have HS0 : Hid (OwnP W6 (sv + 1) (encS (none, 0, 0)) []) := hid (OwnP.nil _ _)
        have HLEN : Hid ((pad n V.ls).length + 1 ≤ 1099511627776) := hid (by rw [hpl]; have := HK24.out; omega)
        have HZ5 : Hid (sv + 1 ≤ W6.heap.size) := hid (by have := hv2.lt; have := hb5.size; omega)
        have HV := hid hv2
        have HH := hid hh
        have HB5' := hid hb5
        have HBW := hid hbw2
        have HM0 := hid (lenAt_is c2)
        have HPL1 : Hid ((pad n V.ls ++ [[]]).length = M + 1) := hid (by rw [List.length_append, hpl]; rfl)
        have HN : Hid (n + 1 ≤ k + 1 - V.ls.length) := hid (by omega)
        have HV0 : Hid (∀ g, blkS ((none, 0, 0) : Sl) = some g → (Value.slice a M ca).ownBlock ≠ some g) := hid fun g e => by simp [blkS] at e
        have HC1 : Hid (∀ u ∈ cs', ∀ g, blkS u = some g → blkS ((none, 0, 0) : Sl) ≠ some g) := hid fun u _ g _ e => by simp [blkS] at e
        have HLTM := hid hlt
        clear hv2 hh hb5 hbw2 hpl hn hM hlt
        go_wp2_with (refine wpList_appendLs (s := (none, 0, 0)) (l := []) HL5.out HC0.out HS0.out HV0.out HC1.out HLEN.out HZ5.out rfl rfl rfl rfl ?_; intro v8 w8 hown8 hg8 hat8; obtain ⟨a9, c9, e9⟩ := hown8.sli HPL1.out; subst e9; have HO8 := hid hown8; have HG8 := hid hg8; have HA8 := hid hat8; have k2 := (HV.out.boxL HB5'.out hg8).c2; have g2 := (HV.out.boxL HB5'.out hg8).f2; clear hown8 hg8 hat8)
        have hnew := HV.out.growL HB5'.out HO8.out HG8.out HA8.out
        have hnewh := HH.out.growL HB5'.out HG8.out HA8.out
        rw [pad_succ] at hnew
        have HNEW := hid hnew
        have HNEWH := hid hnewh
        have HM1 : Hid (lenAt (w8.setCell ⟨sv, 2, none⟩ (.slice a9 (M + 1) c9)) ⟨sv, 2, none⟩ = M + 1) := hid (lenAt_is hnew.1.box.c2)
        clear hnew hnewh k2 g2 c2
        go_roundw
        case rel => exact ⟨n + 1, _, _, HN.out, HNEW.out.1, HNEWH.out, HBW.out.trans HNEW.out.2⟩
        case measure => rw [HM1.out, HM0.out]; have := HLTM.out; have := HK24.out; omega
      · have t1 : decide ((M : Int) ≤ (k : Int)) = false := by simpa using hlt
        have t2 : decide (M ≤ k) = false := by simpa using hlt
        have hn2 : n = k + 1 - V.ls.length := by omega
        have hkM : k < M := by omega
        obtain ⟨g, cap, hlit⟩ := hv2.ls.litV hpl (by omega)
        injection hlit with ha' _ hc'
        subst ha'
        have hc2 := hc'.symm
        subst hc2
        obtain ⟨a2, m2, c2', yl, hy, hyl, hcell, hownl, hgw, hap⟩ := app_put (p := (x, y)) hv2.ls hpl hkM (Keeps.refl wr2 _ cs')
        have hb7 : Below wr2.heap.size wr2 (wr2.drew.alloc (.cells #[.int .u16 x, .int .u32 y] 25)) := (Below.refl _ _).drew.alloc (by simp) _
        have hcell7 : (wr2.drew.alloc (.cells #[.int .u16 x, .int .u32 y] 25)).cell? ⟨g, k, none⟩ = some (.slice a2 m2 c2') := (hb7.cell (by exact hgw)).trans hcell
        have hcella : (wr2.alloc (.cells #[.int .u16 x, .int .u32 y] 25)).cell? ⟨g, k, none⟩ = some (.slice a2 m2 c2') := (((Below.refl _ _).alloc (Nat.le_refl _) _ : Below wr2.heap.size wr2 _).cell (by exact hgw)).trans hcell
        have hcelld : wr2.drew.cell? ⟨g, k, none⟩ = some (.slice a2 m2 c2') := hcell
        have HO7 := hid (hownl.ext hb7)
        have HR7 : Hid (PidRow (wr2.drew.alloc (.cells #[.int .u16 x, .int .u32 y] 25)) (some ⟨wr2.heap.size, 0, none⟩) [(x, y)]) := hid (PidRow.one wr2.drew x y)
        have HLEN : Hid (yl.length + [(x, y)].length ≤ 1099511627776) := hid (by
          have := List.mem_of_getElem? hy
          rcases pad_mem this with h | h
          · have := hsm.out.le yl h; simp; omega
          · subst h; simp)
        have HB7 : Hid (sv + 1 ≤ (wr2.drew.alloc (.cells #[.int .u16 x, .int .u32 y] 25)).heap.size) := hid (by have := hb7.size; have := hv2.lt; omega)
        have hSs : sv < wr2.heap.size ∧ ¬ inLL (.slice (some ⟨g, 0, none⟩) M cap) cs' sv := ⟨hv2.lt, fun e => by have := (hv2.ls.inB e).1; omega⟩
        have HS0 : Hid (wr2.drew.cell? ⟨sv, 2, none⟩ = some (.slice (some ⟨g, 0, none⟩) M cap) ∧ wr2.drew.cell? ⟨B, 0, none⟩ = some (.int .u16 x) ∧ wr2.drew.cell? ⟨B, 1, none⟩ = some (.int .u32 y)) := hid ⟨c2, hh.c0, hh.c1⟩
        have HS7 : Hid ((wr2.drew.alloc (.cells #[.int .u16 x, .int .u32 y] 25)).cell? ⟨sv, 2, none⟩ = some (.slice (some ⟨g, 0, none⟩) M cap) ∧ (wr2.drew.alloc (.cells #[.int .u16 x, .int .u32 y] 25)).cell? ⟨B, 0, none⟩ = some (.int .u16 x) ∧ (wr2.drew.alloc (.cells #[.int .u16 x, .int .u32 y] 25)).cell? ⟨B, 1, none⟩ = some (.int .u32 y)) := hid ⟨(hb7.cell (by exact hv2.lt)).trans c2, (hb7.cell (by exact hh.lt)).trans hh.c0, (hb7.cell (by exact hh.lt)).trans hh.c1⟩
        have HSS := hid hSs
        have HHB : Hid (B < wr2.heap.size ∧ ¬ inLL (.slice (some ⟨g, 0, none⟩) M cap) cs' B) := hid ⟨hh.lt, hh.nl⟩
        have HAP := hid hap
        have HBW7 := hid hb7
        have HV := hid hv2
        have HH := hid hh
        have HBW := hid hbw2
        have HPUT : Hid ((pad n V.ls).set k (yl ++ [(x, y)]) = putK (x, y) k V.ls) := hid (by
          rw [putK_pad, ← hn2, hy]; rfl)
        have HKM := hid hkM
        clear hv2 hh hbw2 hn hn2 hpl hM hlt hy hyl hcell hownl hgw hap hb7 hSs
        go_wp2_with fail
        clear t1 t2
        go_cut [12] (fun kv wx => kv = .int .i64 k ∧ ∃ cs2, VSt wx sv ⟨V.id, V.ms, putK (x, y) k V.ls, V.ds⟩ (.slice am0 j cm) (.slice (some ⟨g, 0, none⟩) M cap) vd cs2 ∧ Hold wx sv B x y (.slice am0 j cm) (.slice (some ⟨g, 0, none⟩) M cap) vd cs2 ∧ Below sv W5 wx)
        case first =>
          refine wp_region_held_drew (S := fun W => W.cell? ⟨sv, 2, none⟩ = some (.slice (some ⟨g, 0, none⟩) M cap) ∧ W.cell? ⟨B, 0, none⟩ = some (.int .u16 x) ∧ W.cell? ⟨B, 1, none⟩ = some (.int .u32 y)) (by kernel_rfl) (by exact HS0.out) (fun hHeld => ?_)
          refine wpAnyH_take (i := 0) (oi := _) (v := .pointer (some ⟨sv, 2, none⟩)) rfl (by kernel_rfl) (by kernel_rfl) (by kernel_rfl) (fun _ _ _ h => h) (Or.inl ⟨by rfl, ?_⟩) (by assumption) ?_
          · intro W hSw
            try dsimp only at hSw
            go_simp
          try simp only [Act.put, List.getElem_toArray, List.getElem_cons_succ, List.getElem_cons_zero, List.setIfInBounds_toArray, List.set_cons_zero, List.set_cons_succ]
          refine wpAnyH_take (i := 1) (oi := _) (v := .slice (some ⟨g, 0, none⟩) M cap) rfl (by kernel_rfl) (by kernel_rfl) (by kernel_rfl) (fun _ _ _ h => h) (Or.inl ⟨by rfl, ?_⟩) (by assumption) ?_
          · intro W hSw
            try dsimp only at hSw
            obtain ⟨hSw1, hSw2, hSw3⟩ := hSw
            go_simp
          try simp only [Act.put, List.getElem_toArray, List.getElem_cons_succ, List.getElem_cons_zero, List.setIfInBounds_toArray, List.set_cons_zero, List.set_cons_succ]
          refine wpAnyH_take (i := 2) (oi := _) (v := .int .i64 (k : Int)) rfl (by kernel_rfl) (by kernel_rfl) (by kernel_rfl) (fun _ _ _ h => h) (Or.inl ⟨by rfl, ?_⟩) (by assumption) ?_
          · intro W hSw
            try dsimp only at hSw
            go_simp
          try simp only [Act.put, List.getElem_toArray, List.getElem_cons_succ, List.getElem_cons_zero, List.setIfInBounds_toArray, List.set_cons_zero, List.set_cons_succ]
          refine wpAnyH_take (i := 3) (oi := _) (v := .pointer (some ⟨sv, 2, none⟩)) rfl (by kernel_rfl) (by kernel_rfl) (by kernel_rfl) (fun _ _ _ h => h) (Or.inl ⟨by rfl, ?_⟩) (by assumption) ?_
          · intro W hSw
            try dsimp only at hSw
            go_simp
          try simp only [Act.put, List.getElem_toArray, List.getElem_cons_succ, List.getElem_cons_zero, List.setIfInBounds_toArray, List.set_cons_zero, List.set_cons_succ]
          refine wpAnyH_take (i := 4) (oi := _) (v := .slice (some ⟨g, 0, none⟩) M cap) rfl (by kernel_rfl) (by kernel_rfl) (by kernel_rfl) (fun _ _ _ h => h) (Or.inl ⟨by rfl, ?_⟩) (by assumption) ?_
          · intro W hSw
            try dsimp only at hSw
            obtain ⟨hSw1, hSw2, hSw3⟩ := hSw
            go_simp
          try simp only [Act.put, List.getElem_toArray, List.getElem_cons_succ, List.getElem_cons_zero, List.setIfInBounds_toArray, List.set_cons_zero, List.set_cons_succ]
          refine wpAnyH_take (i := 5) (oi := _) (v := .int .i64 (k : Int)) rfl (by kernel_rfl) (by kernel_rfl) (by kernel_rfl) (fun _ _ _ h => h) (Or.inl ⟨by rfl, ?_⟩) (by assumption) ?_
          · intro W hSw
            try dsimp only at hSw
            go_simp
          try simp only [Act.put, List.getElem_toArray, List.getElem_cons_succ, List.getElem_cons_zero, List.setIfInBounds_toArray, List.set_cons_zero, List.set_cons_succ]
          refine wpAnyH_take (i := 6) (oi := _) (v := .pointer (some ⟨g, k, none⟩)) rfl (by kernel_rfl) (by kernel_rfl) (by kernel_rfl) (fun _ _ _ h => h) (Or.inl ⟨by rfl, ?_⟩) (by assumption) ?_
          · intro W hSw
            try dsimp only at hSw
            have hkM := HKM.out
            go_simp
          try simp only [Act.put, List.getElem_toArray, List.getElem_cons_succ, List.getElem_cons_zero, List.setIfInBounds_toArray, List.set_cons_zero, List.set_cons_succ]
          refine wpAnyH_take (i := 8) (oi := _) (v := .agg #[.int .u16 x, .int .u32 y]) rfl (by kernel_rfl) (by kernel_rfl) (by kernel_rfl) (fun _ _ _ h => h) (Or.inl ⟨by rfl, ?_⟩) (by assumption) ?_
          · intro W hSw
            try dsimp only at hSw
            obtain ⟨hSw1, hSw2, hSw3⟩ := hSw
            go_simp
          try simp only [Act.put, List.getElem_toArray, List.getElem_cons_succ, List.getElem_cons_zero, List.setIfInBounds_toArray, List.set_cons_zero, List.set_cons_succ]
          refine wpAnyH_ready (rs := [7, 9]) (by kernel_rfl) (by simp) ?_
          refine AllReadyH.cons (o := _) rfl (fun K hK => ?_) (AllReadyH.cons (o := _) rfl (fun K hK => ?_) AllReadyH.nil)
          · go_simp
            refine hK.out _ _ (HS0.out) (fun hHeld => ?_)
            clear hK K
            try simp only [Act.put, List.getElem_toArray, List.getElem_cons_succ, List.getElem_cons_zero, List.setIfInBounds_toArray, List.set_cons_zero, List.set_cons_succ]
            refine wpAnyH_ready (rs := [9]) (by kernel_rfl) (by simp) ?_
            refine AllReadyH.cons (o := _) rfl (fun K hK => ?_) AllReadyH.nil
            go_simp
            refine hK.out _ _ (HS7.out) (fun hHeld => ?_)
            clear hK K
            try simp only [Act.put, List.getElem_toArray, List.getElem_cons_succ, List.getElem_cons_zero, List.setIfInBounds_toArray, List.set_cons_zero, List.set_cons_succ]
            refine wpAnyH_ready (rs := [10]) (by kernel_rfl) (by simp) ?_
            refine AllReadyH.cons (o := _) rfl (fun K hK => ?_) AllReadyH.nil
            refine step_appendPat (by rfl) HO7.out HR7.out (hid rfl) HLEN.out HB7.out rfl rfl rfl ?_
            intro v8 w8 hown8 hg8 hat8
            obtain ⟨a8, n8, c8, cs8, e8, k8, f8, hL8, hK8, hq8⟩ := HAP.out _ HBW7.out v8 w8 hown8 hg8 hat8
            subst e8
            have HS8 : Hid (w8.cell? ⟨sv, 2, none⟩ = some (.slice (some ⟨g, 0, none⟩) M cap) ∧ w8.cell? ⟨B, 0, none⟩ = some (.int .u16 x) ∧ w8.cell? ⟨B, 1, none⟩ = some (.int .u32 y)) := hid ⟨((hq8 ⟨sv, 2, none⟩ HSS.out.1 HSS.out.2).1).trans HS0.out.1, ((hq8 ⟨B, 0, none⟩ HHB.out.1 HHB.out.2).1).trans HS0.out.2.1, ((hq8 ⟨B, 1, none⟩ HHB.out.1 HHB.out.2).1).trans HS0.out.2.2⟩
            have HS9 : Hid ((w8.setCell ⟨g, k, none⟩ (.slice a8 n8 c8)).cell? ⟨sv, 2, none⟩ = some (.slice (some ⟨g, 0, none⟩) M cap) ∧ (w8.setCell ⟨g, k, none⟩ (.slice a8 n8 c8)).cell? ⟨B, 0, none⟩ = some (.int .u16 x) ∧ (w8.setCell ⟨g, k, none⟩ (.slice a8 n8 c8)).cell? ⟨B, 1, none⟩ = some (.int .u32 y)) := hid ⟨((hq8 ⟨sv, 2, none⟩ HSS.out.1 HSS.out.2).2).trans HS0.out.1, ((hq8 ⟨B, 0, none⟩ HHB.out.1 HHB.out.2).2).trans HS0.out.2.1, ((hq8 ⟨B, 1, none⟩ HHB.out.1 HHB.out.2).2).trans HS0.out.2.2⟩
            have hL8' := hL8
            rw [HPUT.out] at hL8'
            have HKP := hid (HV.out.keep hL8' hK8)
            have HKH := hid (HH.out.keep hK8)
            clear hown8 hg8 hat8 hL8 hL8' hK8 hq8
            refine hK.out _ _ (HS8.out) (fun hHeld => ?_)
            clear hK K
            try simp only [Act.put, List.getElem_toArray, List.getElem_cons_succ, List.getElem_cons_zero, List.setIfInBounds_toArray, List.set_cons_zero, List.set_cons_succ]
            refine wpAnyH_ready (rs := [11]) (by kernel_rfl) (by simp) ?_
            refine AllReadyH.cons (o := _) rfl (fun K hK => ?_) AllReadyH.nil
            have hkM := HKM.out
            go_simp
            refine hK.out _ _ (HS8.out) (fun hHeld => ?_)
            clear hK K
            try simp only [Act.put, List.getElem_toArray, List.getElem_cons_succ, List.getElem_cons_zero, List.setIfInBounds_toArray, List.set_cons_zero, List.set_cons_succ]
            refine wpAnyH_ready (rs := [12]) (by kernel_rfl) (by simp) ?_
            refine AllReadyH.cons (o := _) rfl (fun K hK => ?_) AllReadyH.nil
            go_simp
            refine hK.out _ _ (HS9.out) (fun hHeld => ?_)
            clear hK K
            try simp only [Act.put, List.getElem_toArray, List.getElem_cons_succ, List.getElem_cons_zero, List.setIfInBounds_toArray, List.set_cons_zero, List.set_cons_succ]
            refine wpAnyH_done (by kernel_rfl) ?_ _
            go_wp2_with fail
            go_meet
            exact ⟨rfl, _, HKP.out.1, HKH.out, HBW.out.trans HKP.out.2⟩
          · go_simp
            refine hK.out _ _ (HS7.out) (fun hHeld => ?_)
            clear hK K
            try simp only [Act.put, List.getElem_toArray, List.getElem_cons_succ, List.getElem_cons_zero, List.setIfInBounds_toArray, List.set_cons_zero, List.set_cons_succ]
            refine wpAnyH_ready (rs := [7]) (by kernel_rfl) (by simp) ?_
            refine AllReadyH.cons (o := _) rfl (fun K hK => ?_) AllReadyH.nil
            go_simp
            refine hK.out _ _ (HS7.out) (fun hHeld => ?_)
            clear hK K
            try simp only [Act.put, List.getElem_toArray, List.getElem_cons_succ, List.getElem_cons_zero, List.setIfInBounds_toArray, List.set_cons_zero, List.set_cons_succ]
            refine wpAnyH_ready (rs := [10]) (by kernel_rfl) (by simp) ?_
            refine AllReadyH.cons (o := _) rfl (fun K hK => ?_) AllReadyH.nil
            refine step_appendPat (by rfl) HO7.out HR7.out (hid rfl) HLEN.out HB7.out rfl rfl rfl ?_
            intro v8 w8 hown8 hg8 hat8
            obtain ⟨a8, n8, c8, cs8, e8, k8, f8, hL8, hK8, hq8⟩ := HAP.out _ HBW7.out v8 w8 hown8 hg8 hat8
            subst e8
            have HS8 : Hid (w8.cell? ⟨sv, 2, none⟩ = some (.slice (some ⟨g, 0, none⟩) M cap) ∧ w8.cell? ⟨B, 0, none⟩ = some (.int .u16 x) ∧ w8.cell? ⟨B, 1, none⟩ = some (.int .u32 y)) := hid ⟨((hq8 ⟨sv, 2, none⟩ HSS.out.1 HSS.out.2).1).trans HS0.out.1, ((hq8 ⟨B, 0, none⟩ HHB.out.1 HHB.out.2).1).trans HS0.out.2.1, ((hq8 ⟨B, 1, none⟩ HHB.out.1 HHB.out.2).1).trans HS0.out.2.2⟩
            have HS9 : Hid ((w8.setCell ⟨g, k, none⟩ (.slice a8 n8 c8)).cell? ⟨sv, 2, none⟩ = some (.slice (some ⟨g, 0, none⟩) M cap) ∧ (w8.setCell ⟨g, k, none⟩ (.slice a8 n8 c8)).cell? ⟨B, 0, none⟩ = some (.int .u16 x) ∧ (w8.setCell ⟨g, k, none⟩ (.slice a8 n8 c8)).cell? ⟨B, 1, none⟩ = some (.int .u32 y)) := hid ⟨((hq8 ⟨sv, 2, none⟩ HSS.out.1 HSS.out.2).2).trans HS0.out.1, ((hq8 ⟨B, 0, none⟩ HHB.out.1 HHB.out.2).2).trans HS0.out.2.1, ((hq8 ⟨B, 1, none⟩ HHB.out.1 HHB.out.2).2).trans HS0.out.2.2⟩
            have hL8' := hL8
            rw [HPUT.out] at hL8'
            have HKP := hid (HV.out.keep hL8' hK8)
            have HKH := hid (HH.out.keep hK8)
            clear hown8 hg8 hat8 hL8 hL8' hK8 hq8
            refine hK.out _ _ (HS8.out) (fun hHeld => ?_)
            clear hK K
            try simp only [Act.put, List.getElem_toArray, List.getElem_cons_succ, List.getElem_cons_zero, List.setIfInBounds_toArray, List.set_cons_zero, List.set_cons_succ]
            refine wpAnyH_ready (rs := [11]) (by kernel_rfl) (by simp) ?_
            refine AllReadyH.cons (o := _) rfl (fun K hK => ?_) AllReadyH.nil
            have hkM := HKM.out
            go_simp
            refine hK.out _ _ (HS8.out) (fun hHeld => ?_)
            clear hK K
            try simp only [Act.put, List.getElem_toArray, List.getElem_cons_succ, List.getElem_cons_zero, List.setIfInBounds_toArray, List.set_cons_zero, List.set_cons_succ]
            refine wpAnyH_ready (rs := [12]) (by kernel_rfl) (by simp) ?_
            refine AllReadyH.cons (o := _) rfl (fun K hK => ?_) AllReadyH.nil
            go_simp
            refine hK.out _ _ (HS9.out) (fun hHeld => ?_)
            clear hK K
            try simp only [Act.put, List.getElem_toArray, List.getElem_cons_succ, List.getElem_cons_zero, List.setIfInBounds_toArray, List.set_cons_zero, List.set_cons_succ]
            refine wpAnyH_done (by kernel_rfl) ?_ _
            go_wp2_with fail
            go_meet
            exact ⟨rfl, _, HKP.out.1, HKH.out, HBW.out.trans HKP.out.2⟩
        case rest =>
        obtain ⟨rfl, cs2, hv2, hh, hb2⟩ := hcut
        rename World => wm
        clear HS0 HS7 HSS HHB HAP HBW7 HV HH HBW HO7 HR7 HLEN HB7 HPUT hcell7 hcella hcelld c2
        obtain ⟨W7, hW7⟩ : ∃ W7, wm.alloc (.cells #[.int .u16 x, .int .u32 y] 25) = W7 := ⟨_, rfl⟩
        have hb7 : Below wm.heap.size wm W7 := by rw [← hW7]; exact (Below.refl _ _).alloc (Nat.le_refl _) _
        have c1 : wm.cell? ⟨sv, 1, none⟩ = some (.slice am0 j cm) := hv2.box.c1
        have p0 := hh.c0
        have p1 := hh.c1
        have HO7 := hid (hv2.ms.ext hb7)
        have HR7 : Hid (PidRow W7 (some ⟨wm.heap.size, 0, none⟩) [(x, y)]) := hid (by rw [← hW7]; exact PidRow.one wm x y)
        have HLEN : Hid (V.ms.length + [(x, y)].length ≤ 1099511627776) := hid (by have := hsm.out.ms; simp; omega)
        have HB7 : Hid (sv + 1 ≤ W7.heap.size) := hid (by have := hb7.size; have := hv2.lt; omega)
        have HBW7 := hid hb7
        have HV := hid hv2
        have HH := hid hh
        have HBW := hid hb2
        have HN8 : Hid ((V.ms ++ [(x, y)]).length = j + 1) := hid (by rw [List.length_append, hsm.out.ms]; rfl)
        clear hv2 hh hb2 hb7
        go_upto_region 14 with fail
        go_cut [7] (fun kv wx => ∃ am2 cm2, VSt wx sv ⟨V.id, V.ms ++ [(x, y)], putK (x, y) k V.ls, V.ds⟩ (.slice am2 (j + 1) cm2) (.slice (some ⟨g, 0, none⟩) M cap) vd cs2 ∧ Hold wx sv B x y (.slice am2 (j + 1) cm2) (.slice (some ⟨g, 0, none⟩) M cap) vd cs2 ∧ Below sv W5 wx)
        case first =>
          go_wp2_with (refine wpList_appendPat (ys := [(x, y)]) HO7.out HR7.out (hid rfl) HLEN.out HB7.out rfl rfl rfl rfl ?_; intro v8 w8 hown8 hg8 hat8; obtain ⟨a9, c9, e9, -⟩ := hown8.sl; rw [HN8.out] at e9; subst e9; have HKP := hid (HV.out.growM HBW7.out hown8 hg8 hat8); have HKH := hid ((HH.out.growM (v8 := .slice a9 (j + 1) c9) HBW7.out hg8 hat8).2); have k8 := (HV.out.boxM HBW7.out hg8).c1; have f8 := (HV.out.boxM HBW7.out hg8).f1; clear hown8 hg8 hat8)
          go_meet
          exact ⟨_, _, HKP.out.1, HKH.out, HBW.out.trans HKP.out.2⟩
        case rest =>
        obtain ⟨am2, cm2, hv2, hh, hb2⟩ := hcut
        rename World => wn
        clear HV HH HBW HO7 HR7 HLEN HB7 HBW7 c1 p0 p1 hW7
        have HV := hid hv2
        have HH := hid hh
        have HBW := hid hb2
        clear hv2 hh hb2
        go_upto_region 15 with fail
        go_cut [93] (fun t wx => t = .bool b ∧ wx = wn)
        case first =>
          by_cases hl0 : leaf = []
          · have hb0 : b = false := by rw [← HBS.out, hl0]; rfl
            subst hb0
            have z1 : leaf.length = 0 := by rw [hl0]; rfl
            have z2 : decide ((leaf.length : Int) > 0) = false := decide_eq_false (by omega)
            have z3 : decide (0 < leaf.length) = false := decide_eq_false (by omega)
            clear hl0
            go_wp2_with fail
            go_meet
            exact ⟨rfl, rfl⟩
          · obtain ⟨ln, hln⟩ : ∃ ln, leaf.length = ln + 1 := ⟨leaf.length - 1, by cases leaf; exact absurd rfl hl0; simp⟩
            have hlt : ln < leaf.length := by omega
            obtain ⟨z, hz⟩ : ∃ z, leaf[ln] = z := ⟨_, rfl⟩
            have hi : (⟨leaf.toArray⟩ : ByteArray)[ln]'(by show ln < leaf.toArray.size; simpa using hlt) = z := by rw [← hz]; rfl
            have hbz : b = (z == 42) := by
              rw [← HBS.out]
              unfold starB
              rw [List.getLast?_eq_getElem?, show leaf.length - 1 = ln by omega, List.getElem?_eq_getElem hlt, hz]
              rfl
            have z2 : decide ((leaf.length : Int) > 0) = true := decide_eq_true (by omega)
            have z3 : decide (0 < leaf.length) = true := decide_eq_true (by omega)
            have hll := HLR.out.2.2
            have i1 : IntKind.i64.wrap ((leaf.length : Int) - 1) = (ln : Int) := by rw [IntKind.wrap_i64] <;> omega
            have i3 : (leaf.length : Int) - 1 = (ln : Int) := by omega
            have i4 : (ln : Int) < (leaf.length : Int) := by omega
            by_cases hz42 : z = 42
            · have hb1 : b = true := by rw [hbz, hz42]; rfl
              subst hb1
              have t1 : ((z.toNat : Int) == 42) = true := by rw [hz42]; rfl
              clear hbz hz hl0 hz42
              go_wp2_with fail
              go_meet
              exact ⟨rfl, rfl⟩
            · have hb1 : b = false := by rw [hbz]; simpa using hz42
              subst hb1
              have t1 : ((z.toNat : Int) == 42) = false := by
                rw [beq_eq_false_iff_ne]
                intro e
                exact hz42 (UInt8.toNat_inj.1 (by have : (42 : UInt8).toNat = 42 := rfl; omega))
              clear hbz hz hl0 hz42
              go_wp2_with fail
              go_meet
              exact ⟨rfl, rfl⟩
        case rest =>
        obtain ⟨rfl, hwx⟩ := hcut
        have hwx' := hwx.symm
        subst hwx'
        clear hwx
        have HSM := hid (hsm.out.memD (p := (x, y)) (j := k) (b := b) HOKP.out (by have := HK24.out; omega))
        have HFIN : Hid (foldR 25 ⟨(n0 : Int), [], [], []⟩ rest0 = foldR (25 - (j + 1)) (memD V (x, y) k b) rest') := hid (hf.out.trans (HFS.out _ HY.out))
        go_upto_if 93 with fail
        cases b
        case false =>
          go_wp2_with fail
          go_roundw
          case rel => exact ⟨j + 1, memD V (x, y) k false, _, _, _, _, rest', rfl, by have := HJ.out; omega, hid HLR.out.2.1, HFIN, hid HV.out, HSM, hid HBW.out⟩
          case measure => rw [strLen_is, strLen_is]; exact HLR.out.1
        case true =>
          obtain ⟨W7, hW7⟩ : ∃ W7, wn.alloc (.cells #[.int .u16 x, .int .u32 y] 25) = W7 := ⟨_, rfl⟩
          have hb7 : Below wn.heap.size wn W7 := by rw [← hW7]; exact (Below.refl _ _).alloc (Nat.le_refl _) _
          have c1 : wn.cell? ⟨sv, 3, none⟩ = some vd := HV.out.box.c3
          have p0 := HH.out.c0
          have p1 := HH.out.c1
          have HO7 := hid (HV.out.ds.ext hb7)
          have HR7 : Hid (PidRow W7 (some ⟨wn.heap.size, 0, none⟩) [(x, y)]) := hid (by rw [← hW7]; exact PidRow.one wn x y)
          have HLEN : Hid (V.ds.length + [(x, y)].length ≤ 1099511627776) := hid (by have := hsm.out.ds; simp; omega)
          have HB7 : Hid (sv + 1 ≤ W7.heap.size) := hid (by have := hb7.size; have := HV.out.lt; omega)
          have HBW7 := hid hb7
          obtain ⟨n8, hn8⟩ : ∃ n8, (V.ds ++ [(x, y)]).length = n8 := ⟨_, rfl⟩
          have HN8' := hid hn8
          clear hb7 hn8
          go_wp2_with (refine wpList_appendPat (ys := [(x, y)]) HO7.out HR7.out (hid rfl) HLEN.out HB7.out rfl rfl rfl rfl ?_; intro v8 w8 hown8 hg8 hat8; obtain ⟨a9, c9, e9, -⟩ := hown8.sl; rw [HN8'.out] at e9; subst e9; have HKP := hid (HV.out.growD HBW7.out hown8 hg8 hat8); have k8 := (HV.out.boxD HBW7.out hg8).c3; have f8 := (HV.out.boxD HBW7.out hg8).f3; clear hown8 hg8 hat8)
          go_roundw
          case rel => exact ⟨j + 1, memD V (x, y) k true, _, _, _, _, rest', rfl, by have := HJ.out; omega, hid HLR.out.2.1, HFIN, hid HKP.out.1, HSM, hid (HBW.out.trans HKP.out.2)⟩
          case measure => rw [strLen_is, strLen_is]; exact HLR.out.1
end Go.Proofs.YtppapeoainafbaaGreatDoor

