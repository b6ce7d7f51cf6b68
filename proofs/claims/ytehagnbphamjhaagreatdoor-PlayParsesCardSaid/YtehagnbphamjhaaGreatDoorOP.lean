/- Parts of the proof: OP. -/
import Derived.Lib.PathFns
import Derived.Test.YtehagnbphamjhaaGreatDoorGPlayBack15
namespace Go.Proofs.YtehagnbphamjhaaGreatDoor
open Go.RowKit
/-! ### play: step -/
/-- what is left to be read when some numbers are -/
def numsFrom (t : Str) (x : Shape) : List Int → List Str → Option StepD
  | [], r => numsP t x r
  | [a], r => if x.two = true then (match readN r with | none => none | some (b, r2) => dataP t x a b r2) else dataP t x a 0 r
  | a :: b :: _, r => dataP t x a b r
theorem numsFrom_nil (t : Str) (x : Shape) (r : List Str) : numsFrom t x [] r = match readN r with | none => none | some (a, r2) => numsFrom t x [a] r2 := by
  simp only [numsFrom, numsP]
  rcases readN r with _ | ⟨a, r2⟩ <;> rfl
theorem numsFrom_one (t : Str) (x : Shape) (a : Int) (r : List Str) (h : x.two = true) : numsFrom t x [a] r = match readN r with | none => none | some (b, r2) => numsFrom t x [a, b] r2 := by
  simp only [numsFrom, h, if_true]
def StepRes (B : Nat) (w' : World) (e : Ending) (r : Option StepD) : Prop := match r with
  | none => e = .returned (.tuple #[.agg #[.int .i64 0, .int .i64 0, .int .i64 0, .slice none 0 0], .bool false])
  | some s => ∃ a c, e = .returned (.tuple #[.agg #[.int .i64 s.kind, .int .i64 s.a, .int .i64 s.b, .slice a s.data.length c], .bool true]) ∧ ByteRow w' a s.data ∧ ∀ b off, a = some ⟨b, off, none⟩ → B ≤ b ∧ b < w'.heap.size
theorem split_ne (s : Str) (c : UInt8) : ∃ w0 rest, Lib.split s [c] = w0 :: rest := by
  rcases splc_cases c s with ⟨-, h⟩ | ⟨a, b, -, -, h⟩
  · exact ⟨_, _, h⟩
  · exact ⟨_, _, h⟩
theorem split_lens {c : UInt8} : ∀ (n : Nat) {s : Str}, s.length ≤ n → (∀ t ∈ Lib.split s [c], t.length ≤ s.length) ∧ (Lib.split s [c]).length ≤ s.length + 1
  | 0, s, h => by
    have : s = [] := List.eq_nil_of_length_eq_zero (by omega)
    subst this
    rw [splc_no (by simp)]
    exact ⟨fun t ht => by rw [List.mem_singleton.1 ht]; exact Nat.le_refl _, by simp⟩
  | n + 1, s, h => by
    rcases splc_cases c s with ⟨-, hs⟩ | ⟨a, b, -, e, hs⟩
    · rw [hs]
      exact ⟨fun t ht => by rw [List.mem_singleton.1 ht]; exact Nat.le_refl _, by simp⟩
    · rw [hs]
      have hl : s.length = a.length + (b.length + 1) := by rw [e]; simp
      have ih := split_lens (c := c) n (s := b) (by omega)
      refine ⟨fun t ht => ?_, by simp only [List.length_cons]; have := ih.2; omega⟩
      rcases List.mem_cons.1 ht with rfl | ht
      · omega
      · have := ih.1 t ht; omega
theorem shapeW_at {k : Nat} {x : Shape} (h : shapesP[k]? = some x) : shapeW x.word = some x := (shapes_ok x (List.mem_of_getElem? h)).2.2.2.2.2.1
theorem shapeW_none {w0 : Str} (h : ∀ (j : Nat) (x : Shape), shapesP[j]? = some x → x.word ≠ w0) : shapeW w0 = none := by
  unfold shapeW
  rw [List.find?_eq_none]
  intro x hx
  obtain ⟨j, hj⟩ := List.mem_iff_getElem?.1 hx
  have := h j x hj
  simpa using this
theorem StrRow.get {w : World} {b : Nat} {ws : List Str} (h : StrRow w b ws) {k : Nat} {t : Str} (ht : ws[k]? = some t) : w.cell? ⟨b, k, none⟩ = some (.string ⟨t.toArray⟩) := by
  have hk := (List.getElem?_eq_some_iff.1 ht).1
  have e : ws[k] = t := by rw [List.getElem?_eq_getElem hk] at ht; exact Option.some.inj ht
  rw [← e]; exact h.2 k hk
theorem run_fromSP {a : Option Addr} {n c k : Nat} (h : k ≤ n) (W : World) : (Instr.slice 85 (.slice a n c) (some (.int .i64 k)) none none).run Tryz.prog W = .ok (.slice (if c = k then a else a.map (·.add (k * 1))) (n - k) (c - k)) W := by
  have hs : ∀ W, (sizeOf 9).run Tryz.prog W = .ok 1 W := fun W => Tryz.sizeOf9 W
  simp [Instr.slice, run_underlying Tryz.underlying85, Instr.sliceBounds, run_sliceBound, hs, Result.andThen, h]
theorem run_fromA (b o m : Nat) : ∃ a1, (0 < m → a1 = some (⟨b, o + 1, none⟩ : Addr)) ∧ ∀ W : World, (Instr.slice 85 (.slice (some ⟨b, o, none⟩) (m + 1) (m + 1)) (some (.int .i64 1)) none none).run Tryz.prog W = .ok (.slice a1 m m) W := by
  refine ⟨if m + 1 = 1 then some ⟨b, o, none⟩ else some ⟨b, o + 1, none⟩, fun h => if_neg (by omega), fun W => ?_⟩
  have := run_fromSP (a := some ⟨b, o, none⟩) (n := m + 1) (c := m + 1) (k := 1) (by omega) W
  simpa [Addr.add] using this
theorem infoPtr : (Tryz.prog.info? 117).map (fun i => (i.zero, i.size, i.bytes)) = some (some (.pointer none), 1, 8) := by kernel_rfl
set_option maxRecDepth 100000 in
set_option maxHeartbeats 12800000 in
theorem step_any {s : Str} {w : World} (hs : s.length ≤ 2000000) (he : EnvP w) :
    Calls Tryz.prog 34 #[.string ⟨s.toArray⟩] w fun e w' => StepRes w.heap.size w' e (stepP s) ∧ Below w.heap.size w w' := by
  obtain ⟨r, hr⟩ : ∃ r, stepP s = r := ⟨_, rfl⟩
  rw [hr]
  obtain ⟨w0, rest, hsp⟩ := split_ne s 32
  obtain ⟨L, hL⟩ : ∃ L, Lib.split s [32] = L := ⟨_, rfl⟩
  obtain ⟨hl1, hl2⟩ := split_lens (c := 32) s.length (s := s) (Nat.le_refl _)
  have hr2 : r = match shapeW w0 with | none => none | some x => numsP s x (L.drop 1) := by
    rw [← hr]; unfold stepP; rw [← hL, hsp]; rfl
  have hL0 : L[0]? = some w0 := by rw [← hL, hsp]; rfl
  obtain ⟨m, hm⟩ : ∃ m, L.length = m + 1 := ⟨rest.length, by rw [← hL, hsp]; rfl⟩
  rw [hL] at hl1 hl2 hsp
  have HR := hid hr2
  have HL0 := hid hL0
  have HM := hid hm
  have HLE := hid hl1
  have HML : Hid (m ≤ 2000000) := hid (by rw [hm] at hl2; omega)
  have hs0 := hs
  obtain ⟨W1, hW1⟩ : ∃ W1, w.alloc (.cells #[.int .i64 0, .int .i64 0, .int .i64 0, .slice none 0 0] 62) = W1 := ⟨_, rfl⟩
  have hb1 : Below w.heap.size w W1 := by rw [← hW1]; exact (Below.refl _ _).alloc (Nat.le_refl _) _
  have hx1 : Bx4 W1 w.heap.size (.int .i64 0) (.int .i64 0) (.int .i64 0) (.slice none 0 0) := by rw [← hW1]; exact Bx4.made _ _ _ _ _ _
  have C1 := hid (splitP_any s 32 (by omega) W1 (he.ext hb1))
  rw [hL, hm] at C1
  have HE := hid he
  have HB1 := hid hb1
  have HX1 := hid hx1
  have HS := hid hs0
  have HG1 := hid hx1.lt
  clear hr hsp hL hl1 hl2 hr2 hL0 hm hs hs0 hb1 hx1 he
  go_enter Tryz.func34, Tryz.ntmps34
  go_wp2_with fail
  refine C1.out.mono ?_
  rintro e w2 ⟨rfl, hrow, hb2⟩
  have HB2 := hid (HB1.out.trans (hb2.mono HB1.out.size))
  have HX2 := hid (HX1.out.ext hb2)
  have HR2 := hid hrow
  have HG2 : Hid (W1.heap.size < w2.heap.size) := hid hrow.1
  have C2 := hid (shapes_any w2)
  clear hrow hb2 C1 hW1 HX1
  go_wp2_with fail
  refine C2.out.mono ?_
  rintro e w3 ⟨rfl, hb3⟩
  obtain ⟨sb, hsb⟩ : ∃ sb, W1.heap.size = sb := ⟨_, rfl⟩
  rw [hsb] at HR2 HG2
  have HB3 := hid (HB2.out.trans (hb3.mono HB2.out.size))
  have HX3 := hid (HX2.out.ext hb3)
  have HR3 := hid (HR2.out.ext hb3 HG2.out)
  have HSB : Hid (w.heap.size < sb ∧ sb < w3.heap.size) := hid ⟨by rw [← hsb]; exact HG1.out, HR3.out.1⟩
  clear hb3 C2 HX2 HR2 HB2 HG2
  rw [hsb]
  clear hsb HB1
  go_wp2_with fail
  have HC : Hid (∀ W, Below w3.heap.size w3 W → W.cell? ⟨sb, 0, none⟩ = some (.string ⟨w0.toArray⟩)) := hid fun W h => cell_toB (HR3.out.get HL0.out) h
  go_loopw [21] (fun iv wr => ∃ k : Nat, k ≤ 13 ∧ iv = .int .i64 k ∧ Hid (∀ (j : Nat) (x : Shape), j < k → shapesP[j]? = some x → x.word ≠ w0) ∧ Hid (Below w3.heap.size w3 wr)) (fun iv _ => 13 - (intOf iv).toNat)
  case atStart => exact ⟨0, by omega, rfl, hid (fun j x h => absurd h (Nat.not_lt_zero _)), hid (Below.refl _ _)⟩
  case round =>
    obtain ⟨k, hk, rfl, hno, hbw⟩ := hrel
    by_cases hlt : k < 13
    · obtain ⟨x, hx⟩ : ∃ x, shapesP[k]? = some x := ⟨shapesP[k]'(by simpa [shapesP] using hlt), List.getElem?_eq_getElem _⟩
      have HXX := hid hx
      have HSW := hid (shapeW_at hx)
      have UX := fun W => shape_idx hx W
      clear hx
      obtain ⟨xk, word, two, bytes⟩ := x
      simp only [shC] at UX
      have d0 := HC.out wr hbw.out
      obtain ⟨W4, hW4⟩ : ∃ W4, wr.alloc (.cells #[.int .i64 xk, .string ⟨word.toArray⟩, .bool two, .bool bytes] 112) = W4 := ⟨_, rfl⟩
      have hb4 : Below wr.heap.size wr W4 := by rw [← hW4]; exact (Below.refl _ _).alloc (Nat.le_refl _) _
      have hx4 : Bx4 W4 wr.heap.size (.int .i64 xk) (.string ⟨word.toArray⟩) (.bool two) (.bool bytes) := by rw [← hW4]; exact Bx4.made _ _ _ _ _ _
      have d0 := cell_toB d0 hb4
      have HB4 := hid (hbw.out.trans (hb4.mono hbw.out.size))
      have HX4 := hid hx4
      have s1 := hx4.c1
      have f1 := cell_extY s1
      have f2 := cell_extY d0
      clear hb4 hx4
      go_upto_region 5 with fail
      clear hW4
      go_wp2_with fail
      refine wp_region_ext (w := W4) (Below.refl _ _) (by kernel_rfl) (by kernel_rfl) ?_
      repeat (go_big_quiet_step (fail))
      refine wpQuiet_nil ?_
      rintro w9 ⟨⟨_, hb9⟩, rfl⟩
      by_cases hw : word = w0
      · have g : (@BEq.beq (List UInt8) List.instBEq word w0) = true := by simp [hw]
        simp only [g, Bool.not_true]
        have HX9 := hid (HX4.out.ext hb9)
        have HB9 := hid (HB4.out.trans (hb9.mono HB4.out.size))
        have s0 := HX9.out.c0
        have HXK : Hid (-9223372036854775808 ≤ xk ∧ xk ≤ 9223372036854775807) := hid (by have h := shapes_ok _ (List.mem_of_getElem? HXX.out); exact ⟨by have := h.2.2.2.2.2.2.1; simp only at this; omega, by have := h.2.2.2.2.2.2.2; simp only at this; omega⟩)
        have HRX : Hid (r = numsP s ⟨xk, word, two, bytes⟩ (L.drop 1)) := hid (by rw [HR.out, ← hw, HSW.out])
        have HMB := hid HX9.out.lt
        obtain ⟨sg, hsg⟩ : ∃ sg, wr.heap.size = sg := ⟨_, rfl⟩
        rw [hsg] at HX9 HMB
        rw [hsg] at s0
        have HSG : Hid (w3.heap.size ≤ sg) := hid (by rw [← hsg]; exact hbw.out.size)
        rw [hsg]
        clear hb9 hbw HB4 HX4 s1 f1 f2 d0 hsg
        clear hw
        obtain ⟨a1, ha1, UA⟩ := run_fromA sb 0 m
        have HA1 := hid ha1
        clear ha1
        go_upto_region 7 with fail
        obtain ⟨W6, hW6⟩ : ∃ W6, w9.alloc (.cells #[.int .i64 xk, .int .i64 0, .int .i64 0, .slice none 0 0] 62) = W6 := ⟨_, rfl⟩
        have hb6 : Below w9.heap.size w9 W6 := by rw [← hW6]; exact (Below.refl _ _).alloc (Nat.le_refl _) _
        have hx6 : Bx4 W6 w9.heap.size (.int .i64 xk) (.int .i64 0) (.int .i64 0) (.slice none 0 0) := by rw [← hW6]; exact Bx4.made _ _ _ _ _ _
        have HSX : Hid (W6.heap.size = w9.heap.size + 1) := hid (by rw [← hW6]; simp)
        rw [hW6]
        have HX6 := hid hx6
        have HS6 := hid (HX9.out.ext hb6)
        have HB6 := hid (HB9.out.trans (hb6.mono HB9.out.size))
        have HG7 : Hid (w3.heap.size ≤ w9.heap.size ∧ sg < w9.heap.size) := hid ⟨HB9.out.size, HMB.out⟩
        obtain ⟨g7, hg7⟩ : ∃ g7, w9.heap.size = g7 := ⟨_, rfl⟩
        rw [hg7] at HX6 HSX HG7
        rw [hg7]
        clear hW6 hb6 hx6 HX9 HB9 s0 hg7 HMB
        go_upto_region 9 with fail
        obtain ⟨W7, hW7⟩ : ∃ W7, W6.alloc (.cells #[.pointer (some ⟨g7, 1, none⟩)] 117) = W7 := ⟨_, rfl⟩
        have hb7 : Below W6.heap.size W6 W7 := by rw [← hW7]; exact (Below.refl _ _).alloc (Nat.le_refl _) _
        have ho7 : OwnK W7 W6.heap.size 117 1 (.slice (some ⟨W6.heap.size, 0, none⟩) 1 1) [[.pointer (some ⟨g7, 1, none⟩)]] := by rw [← hW7]; exact OwnK.one W6 _ _ _ (Nat.le_refl _) rfl
        have HO7 := hid ho7
        rw [hW7]
        have HX7 := hid (HX6.out.ext hb7)
        have HS7 := hid (HS6.out.ext hb7)
        have HB7 := hid (HB6.out.trans (hb7.mono HB6.out.size))
        have HZ7 : Hid (W6.heap.size < W7.heap.size) := hid (by rw [← hW7]; simp)
        obtain ⟨n7, hn7⟩ : ∃ n7, W6.heap.size = n7 := ⟨_, rfl⟩
        rw [hn7] at HSX HO7 HZ7
        rw [hn7]
        have s2 := HS7.out.c2
        clear hW7 hb7 ho7 HX6 HS6 HB6 hn7
        cases two
        · have HX10 : Hid (Bx4 W7 g7 (.int .i64 xk) (.int .i64 (([] : List Int).getD 0 0)) (.int .i64 (([] : List Int).getD 1 0)) (.slice none 0 0)) := HX7
          have HS10 := HS7
          have HB10 := HB7
          have HN10 : Hid (∀ i, i < 1 → W7.cell? ⟨n7, i, none⟩ = some (.pointer (some ⟨g7, i + 1, none⟩))) := hid fun i hi => by
            obtain rfl : i = 0 := by omega
            obtain ⟨g, c, e, -, -, h⟩ := HO7.out.at (i := 0) rfl
            injection e with e1 e2 e3
            injection e1 with e1
            injection e1 with e1 e4
            have := h 0 _ rfl
            rw [← e1] at this
            simpa using this
          have HNE : Hid (¬ sg = g7 ∧ ¬ n7 = g7 ∧ ¬ sb = g7 ∧ w3.heap.size ≤ g7 ∧ n7 < W7.heap.size) := hid ⟨by have := HG7.out; omega, by have := HSX.out; omega, by have := HSB.out; have := HG7.out; omega, HG7.out.1, HZ7.out⟩
          clear HX7 HS7 HB7 HO7 HZ7 HSX
          go_wp2_with fail
          go_loopw [8, 45] (fun rv iv wr => ∃ (l : List Int) (j q : Nat) (ra : Option Addr), iv = .int .i64 j ∧ j ≤ 1 ∧ rv = .slice ra q q ∧ Hid (q + j = m) ∧ Hid (0 < q → ra = some ⟨sb, 1 + j, none⟩) ∧ Hid (l.length = j) ∧ Hid (∀ v ∈ l, -9223372036854775808 ≤ v ∧ v ≤ 9223372036854775807) ∧ Hid (r = numsFrom s ⟨xk, word, false, bytes⟩ l (L.drop (1 + j))) ∧ Hid (Bx4 wr g7 (.int .i64 xk) (.int .i64 (l.getD 0 0)) (.int .i64 (l.getD 1 0)) (.slice none 0 0)) ∧ Hid (Mut (fun b => b = g7) W7 wr)) (fun _ iv _ => 1 - (intOf iv).toNat)
          case atStart => exact ⟨[], 0, m, a1, rfl, by omega, rfl, hid rfl, hid (fun h => HA1.out h), hid rfl, hid (by simp), hid HRX.out, HX10, hid (Mut.refl _ _)⟩
          case round =>
            obtain ⟨l, j, q, ra, rfl, hj, rfl, hjm, hra, hjl, hbd, hf, hxq, hmq⟩ := hrel
            by_cases hlj : j < 1
            · obtain rfl : j = 0 := by omega
              obtain rfl : l = [] := List.eq_nil_of_length_eq_zero hjl.out
              have PN : wr.cell? ⟨n7, 0, none⟩ = some (.pointer (some ⟨g7, 1, none⟩)) := (hmq.out.cell (p := ⟨n7, 0, none⟩) HNE.out.2.2.2.2 HNE.out.2.1).trans (HN10.out 0 (by decide))
              have HBQ : Hid (Below w3.heap.size w3 wr) := hid (HB10.out.trans (hmq.out.below HB10.out.size fun k e => e ▸ HNE.out.2.2.2.1))
              have HX0 := hid (HX3.out.ext HBQ.out)
              have HB0 := hid (HB3.out.trans (HBQ.out.mono HB3.out.size))
              by_cases hm0 : q = 0
              · have HRN : Hid (r = none) := hid (by
                  have e : L.drop 1 = [] := List.drop_eq_nil_of_le (by rw [HM.out]; have := hjm.out; omega)
                  rw [hf.out, e]; rw [numsFrom_nil]; rfl)
                subst hm0
                have z0 := HX0.out.c0
                have z1 := HX0.out.c1
                have z2 := HX0.out.c2
                have z3 := HX0.out.c3
                have zf := HX0.out.f
                go_wp2_with fail
                refine bodyPost_ret (v := .tuple #[.agg ([.int .i64 0, .int .i64 0, .int .i64 0, .slice none 0 0] : List Value).toArray, .bool false]) (results_cell_tmp (p := 2) (q := 3) (ty := 62) rfl _ _ w.heap.size [.int .i64 0, .int .i64 0, .int .i64 0, .slice none 0 0] _ rfl (HX0.out.all _ _ _ _).range Tryz.underlying62 rfl (infoStepL _ _ _ _)) rfl ⟨by rw [HRN.out]; rfl, below_all HB0.out (Nat.le_refl _) _ _ _ _⟩
              · obtain ⟨u, hu⟩ : ∃ u, L[1]? = some u := ⟨L[1]'(by rw [HM.out]; have := hjm.out; omega), List.getElem?_eq_getElem _⟩
                have hdr : L.drop 1 = u :: L.drop 2 := by
                  have hk := (List.getElem?_eq_some_iff.1 hu).1
                  rw [List.drop_eq_getElem_cons hk]
                  rw [List.getElem?_eq_getElem hk] at hu
                  rw [Option.some.inj hu]
                have hlu : u.length ≤ 2000000 := by have := HLE.out u (List.mem_of_getElem? hu); have := HS.out; omega
                have e0 : wr.cell? ⟨sb, 1, none⟩ = some (.string ⟨u.toArray⟩) := cell_toB (HR3.out.get hu) HBQ.out
                have C7 := hid (atoiP_any u (by omega) wr (HE.out.ext HB0.out))
                have HF3 : Hid (r = match readN (u :: L.drop 2) with | none => none | some (b, r2) => numsFrom s ⟨xk, word, false, bytes⟩ ([] ++ [b]) r2) := hid (by rw [hf.out, hdr]; rw [numsFrom_nil]; rfl)
                obtain ⟨q1, rfl⟩ : ∃ q1, q = q1 + 1 := ⟨q - 1, by omega⟩
                obtain rfl : ra = some ⟨sb, 1, none⟩ := hra.out (by omega)
                obtain ⟨a2, ha2, UA⟩ := run_fromA sb 1 q1
                have HA2 := hid ha2
                clear hu hdr hlu hm0 ha2 hra
                go_wp2_with fail
                refine C7.out.mono ?_
                rintro e w11 ⟨u0, ev, rfl, hat, hb11⟩
                have HX11 := hid (HX0.out.ext hb11)
                have HQ11 := hid (hxq.out.ext hb11)
                have HB11 := hid (HBQ.out.trans (hb11.mono HBQ.out.size))
                have HM11 : Hid (Mut (fun b => b = g7) W7 w11) := hid (hmq.out.trans (Mut.of_below hb11))
                have HAT := hid hat
                clear hat hb11 C7 HX0 hxq HBQ hmq e0 PN
                rcases HAT.out with ⟨hok, rfl⟩ | ⟨hbad, t1, N1, rfl⟩
                · have HF4 : Hid (r = numsFrom s ⟨xk, word, false, bytes⟩ (([] : List Int) ++ [u0]) (L.drop 2)) := hid (by rw [HF3.out]; simp only [readN, hok])
                  have HBD : Hid (∀ v ∈ ([] : List Int) ++ [u0], -9223372036854775808 ≤ v ∧ v ≤ 9223372036854775807) := hid fun v hv => by
                    rcases List.mem_append.1 hv with hv | hv
                    · exact hbd.out v hv
                    · rw [List.mem_singleton.1 hv]; exact Lib.atoiAll_bounds hok
                  have k1 : w11.drew.cell? ⟨g7, 1, none⟩ = some _ := HQ11.out.c1
                  have k2 : w11.drew.frozen? ⟨g7, 1, none⟩ = false := HQ11.out.f 1
                  have k3 : w11.cell? ⟨g7, 1, none⟩ = some _ := HQ11.out.c1
                  have k4 : w11.frozen? ⟨g7, 1, none⟩ = false := HQ11.out.f 1
                  clear hok HAT HF3
                  go_wp2_with fail
                  go_region_held3 (fun _ => True) (first | exact trivial) (fail)
                  clear k1 k2 k3 k4 UA
                  go_wp2_with fail
                  go_roundw
                  case rel => exact ⟨([] : List Int) ++ [u0], 1, q1, a2, by go_num, by omega, rfl, hid (by have := hjm.out; omega), hid (fun h => HA2.out h), hid rfl, HBD, HF4, hid ((HQ11.out.ext (Below.refl _ _).drew).set1 _), hid (mut_set (HM11.out.trans (Mut.of_below (Below.refl _ _).drew)) g7 1 _ rfl)⟩
                  case measure => simp [intOf]
                · have HRN : Hid (r = none) := hid (by
                    rw [HF3.out]
                    simp only [readN]
                    rcases hr1 : Lib.atoiAll u with n | _ | _
                    · rw [hr1] at hbad; cases hbad
                    · rfl
                    · rfl)
                  have HB0 := hid (HB3.out.trans (HB11.out.mono HB3.out.size))
                  clear hbad HAT HF3
                  have z0 := HX11.out.c0
                  have z1 := HX11.out.c1
                  have z2 := HX11.out.c2
                  have z3 := HX11.out.c3
                  have zf := HX11.out.f
                  go_wp2_with fail
                  refine bodyPost_ret (v := .tuple #[.agg ([.int .i64 0, .int .i64 0, .int .i64 0, .slice none 0 0] : List Value).toArray, .bool false]) (results_cell_tmp (p := 2) (q := 3) (ty := 62) rfl _ _ w.heap.size [.int .i64 0, .int .i64 0, .int .i64 0, .slice none 0 0] _ rfl (HX11.out.all _ _ _ _).range Tryz.underlying62 rfl (infoStepL _ _ _ _)) rfl ⟨by rw [HRN.out]; rfl, below_all HB0.out (Nat.le_refl _) _ _ _ _⟩
            · obtain rfl : j = 1 := by omega
              obtain ⟨av, rfl⟩ : ∃ v, l = [v] := by have := hjl.out; match l, this with | [v], _ => exact ⟨v, rfl⟩
              have HBA := hid (hbd.out av (by simp))
              have hf1 : r = dataP s ⟨xk, word, false, bytes⟩ av 0 (L.drop 2) := by rw [hf.out]; rfl
              have HXq : Hid (Bx4 wr g7 (.int .i64 xk) (.int .i64 av) (.int .i64 0) (.slice none 0 0)) := hid hxq.out
              have HSQ := hid (HS10.out.mut hmq.out HNE.out.1)
              have s3 := HSQ.out.c3
              have HBQ : Hid (Below w3.heap.size w3 wr) := hid (HB10.out.trans (hmq.out.below HB10.out.size fun k e => e ▸ HNE.out.2.2.2.1))
              have HF1 := hid hf1
              clear hf1 hf hxq hmq hbd hjl HN10 HX10 HS10
              cases bytes
              · have HF2 : Hid (r = endP s ⟨xk, av, 0, []⟩ (L.drop 2)) := hid (by rw [HF1.out]; rfl)
                have HDB : Hid (Bx4 wr g7 (.int .i64 xk) (.int .i64 av) (.int .i64 0) (.slice none 0 0)) := HXq
                have HD0 : Hid (∀ x ∈ ([] : List Nat), x < 256) := hid (by simp)
                have HDR : Hid (ByteRow wr none []) := hid (.inl rfl)
                have HDN : Hid (([] : List Nat).length = 0) := hid rfl
                have HDL : Hid ((0 : Nat) ≤ 1000000) := hid (by decide)
                have HDG : Hid (∀ b off, (none : Option Addr) = some ⟨b, off, none⟩ → w.heap.size < b ∧ b < wr.heap.size) := hid (fun b off e => by cases e)
                have HLQ : Hid (L.drop 2 = [] ↔ q = 0) := hid (by rw [List.drop_eq_nil_iff, HM.out]; have := hjm.out; omega)
                have HST : Hid (StepR wr none ⟨xk, av, 0, []⟩) := hid ⟨HXK.out, ⟨HBA.out.1, HBA.out.2, (by show (-9223372036854775808 : Int) ≤ 0; decide), (by show (0 : Int) ≤ 9223372036854775807; decide), HD0.out⟩, HDR.out⟩
                have HX0 := hid (HX3.out.ext HBQ.out)
                have HB0 := hid (HB3.out.trans (HBQ.out.mono HB3.out.size))
                have C9 := hid (line_any (c := 0) HST.out HDN.out HDL.out (HE.out.ext HB0.out).tab)
                have y0 := HDB.out.c0
                have y1 := HDB.out.c1
                have y2 := HDB.out.c2
                have y3 := HDB.out.c3
                go_wp2_with fail
                refine C9.out.mono ?_
                rintro e w12 ⟨rfl, hb12⟩
                have y0 := cell_toB y0 hb12
                have y1 := cell_toB y1 hb12
                have y2 := cell_toB y2 hb12
                have y3 := cell_toB y3 hb12
                have HX12 := hid (HX0.out.ext hb12)
                have HB12 := hid (HB0.out.trans (hb12.mono HB0.out.size))
                have HDR12 := hid (HDR.out.ext hb12)
                have HSZ12 := hid hb12.size
                clear hb12 C9 HX0 HB0 HDB HST HD0 HDR
                rcases hlp : lineP ⟨xk, av, 0, []⟩ with _ | t
                · have HRN : Hid (r = none) := hid (by rw [HF2.out]; unfold endP; rw [hlp, if_neg (by simp)])
                  unfold lineV
                  clear hlp y0 y1 y2 y3
                  have z0 := HX12.out.c0
                  have z1 := HX12.out.c1
                  have z2 := HX12.out.c2
                  have z3 := HX12.out.c3
                  have zf := HX12.out.f
                  go_wp2_with fail
                  refine bodyPost_ret (v := .tuple #[.agg ([.int .i64 0, .int .i64 0, .int .i64 0, .slice none 0 0] : List Value).toArray, .bool false]) (results_cell_tmp (p := 2) (q := 3) (ty := 62) rfl _ _ w.heap.size [.int .i64 0, .int .i64 0, .int .i64 0, .slice none 0 0] _ rfl (HX12.out.all _ _ _ _).range Tryz.underlying62 rfl (infoStepL _ _ _ _)) rfl ⟨by rw [HRN.out]; rfl, below_all HB12.out (Nat.le_refl _) _ _ _ _⟩
                · unfold lineV
                  by_cases hq0 : q = 0
                  · have acat := run_cat s [10] (by have := HS.out; omega) (by simp)
                    by_cases heq : t = s ++ [10]
                    · have u1 : (t != s ++ [10]) = false := by simp [heq]
                      have u2 : (t == s ++ [10]) = true := by simp [heq]
                      have HRS : Hid (r = some ⟨xk, av, 0, []⟩) := hid (by rw [HF2.out]; unfold endP; rw [hlp, heq, if_pos ⟨rfl, HLQ.out.2 hq0⟩])
                      subst hq0
                      have z0 := HX12.out.c0
                      have z1 := HX12.out.c1
                      have z2 := HX12.out.c2
                      have z3 := HX12.out.c3
                      have zf := HX12.out.f
                      clear heq hlp
                      go_wp2_with fail
                      refine bodyPost_ret (v := .tuple #[.agg ([.int .i64 xk, .int .i64 av, .int .i64 0, .slice none 0 0] : List Value).toArray, .bool true]) (results_cell_tmp (p := 2) (q := 3) (ty := 62) rfl _ _ w.heap.size [.int .i64 xk, .int .i64 av, .int .i64 0, .slice none 0 0] _ rfl (HX12.out.all _ _ _ _).range Tryz.underlying62 rfl (infoStepL _ _ _ _)) rfl ⟨?_, below_all HB12.out (Nat.le_refl _) _ _ _ _⟩
                      rw [HRS.out]
                      refine ⟨none, 0, by rw [HDN.out], ?_, fun b off e => by have := HDG.out b off e; have := HSZ12.out; simp only [World.size_setCell]; omega⟩
                      exact HDR12.out.mutT (mut_all _ _ _ _ _ _) fun b off e hne h => by have := HDG.out b off e; omega
                    · have u1 : (t != s ++ [10]) = true := by simpa using heq
                      have u2 : (t == s ++ [10]) = false := by simpa using heq
                      have HRN : Hid (r = none) := hid (by rw [HF2.out]; unfold endP; rw [hlp, if_neg (fun h => heq (Option.some.inj h.1))])
                      subst hq0
                      clear heq hlp y0 y1 y2 y3
                      have z0 := HX12.out.c0
                      have z1 := HX12.out.c1
                      have z2 := HX12.out.c2
                      have z3 := HX12.out.c3
                      have zf := HX12.out.f
                      go_wp2_with fail
                      refine bodyPost_ret (v := .tuple #[.agg ([.int .i64 0, .int .i64 0, .int .i64 0, .slice none 0 0] : List Value).toArray, .bool false]) (results_cell_tmp (p := 2) (q := 3) (ty := 62) rfl _ _ w.heap.size [.int .i64 0, .int .i64 0, .int .i64 0, .slice none 0 0] _ rfl (HX12.out.all _ _ _ _).range Tryz.underlying62 rfl (infoStepL _ _ _ _)) rfl ⟨by rw [HRN.out]; rfl, below_all HB12.out (Nat.le_refl _) _ _ _ _⟩
                  · have HRN : Hid (r = none) := hid (by rw [HF2.out]; unfold endP; rw [if_neg (fun h => hq0 (HLQ.out.1 h.2))])
                    have gq : decide (0 < q) = true := by simp; omega
                    have gq2 : decide ((0 : Int) < (q : Nat)) = true := by simp; omega
                    clear hlp y0 y1 y2 y3 hq0
                    have z0 := HX12.out.c0
                    have z1 := HX12.out.c1
                    have z2 := HX12.out.c2
                    have z3 := HX12.out.c3
                    have zf := HX12.out.f
                    go_wp2_with fail
                    refine bodyPost_ret (v := .tuple #[.agg ([.int .i64 0, .int .i64 0, .int .i64 0, .slice none 0 0] : List Value).toArray, .bool false]) (results_cell_tmp (p := 2) (q := 3) (ty := 62) rfl _ _ w.heap.size [.int .i64 0, .int .i64 0, .int .i64 0, .slice none 0 0] _ rfl (HX12.out.all _ _ _ _).range Tryz.underlying62 rfl (infoStepL _ _ _ _)) rfl ⟨by rw [HRN.out]; rfl, below_all HB12.out (Nat.le_refl _) _ _ _ _⟩
              · by_cases hm0 : q = 0
                · have HRN : Hid (r = none) := hid (by
                    have e : L.drop 2 = [] := List.drop_eq_nil_of_le (by rw [HM.out]; have := hjm.out; omega)
                    rw [HF1.out, e]; rfl)
                  have HX0 := hid ((HX3.out.ext HBQ.out))
                  have HB0 := hid (HB3.out.trans (HBQ.out.mono HB3.out.size))
                  subst hm0
                  clear HF1 hjm
                  have z0 := HX0.out.c0
                  have z1 := HX0.out.c1
                  have z2 := HX0.out.c2
                  have z3 := HX0.out.c3
                  have zf := HX0.out.f
                  go_wp2_with fail
                  refine bodyPost_ret (v := .tuple #[.agg ([.int .i64 0, .int .i64 0, .int .i64 0, .slice none 0 0] : List Value).toArray, .bool false]) (results_cell_tmp (p := 2) (q := 3) (ty := 62) rfl _ _ w.heap.size [.int .i64 0, .int .i64 0, .int .i64 0, .slice none 0 0] _ rfl (HX0.out.all _ _ _ _).range Tryz.underlying62 rfl (infoStepL _ _ _ _)) rfl ⟨by rw [HRN.out]; rfl, below_all HB0.out (Nat.le_refl _) _ _ _ _⟩
                · obtain ⟨u, hu⟩ : ∃ u, L[2]? = some u := ⟨L[2]'(by rw [HM.out]; have := hjm.out; omega), List.getElem?_eq_getElem _⟩
                  have hdr : L.drop 2 = u :: L.drop 3 := by
                    have hk := (List.getElem?_eq_some_iff.1 hu).1
                    rw [List.drop_eq_getElem_cons hk]
                    rw [List.getElem?_eq_getElem hk] at hu
                    rw [Option.some.inj hu]
                  have hlu : u.length ≤ 2000000 := by have := HLE.out u (List.mem_of_getElem? hu); have := HS.out; omega
                  have e0 : wr.cell? ⟨sb, 2, none⟩ = some (.string ⟨u.toArray⟩) := cell_toB (HR3.out.get hu) HBQ.out
                  obtain ⟨hp, hhp⟩ : ∃ hp, Lib.hasPrefix u [120] = hp := ⟨_, rfl⟩
                  have C7 := hid (hasPrefixP_any u [120] wr)
                  rw [hhp] at C7
                  obtain ⟨q1, rfl⟩ : ∃ q1, q = q1 + 1 := ⟨q - 1, by omega⟩
                  obtain rfl : ra = some ⟨sb, 2, none⟩ := hra.out (by omega)
                  obtain ⟨a2, ha2, UA⟩ := run_fromA sb 2 q1
                  have HA2 := hid ha2
                  clear ha2 hra hm0
                  go_wp2_with fail
                  refine C7.out.mono ?_
                  rintro e w13 ⟨rfl, rfl⟩
                  clear C7
                  cases hp
                  · have HRN : Hid (r = none) := hid (by rw [HF1.out, hdr]; unfold dataP readD; simp [hhp])
                    have HX0 := hid (HX3.out.ext HBQ.out)
                    have HB0 := hid (HB3.out.trans (HBQ.out.mono HB3.out.size))
                    clear HF1 hdr hhp
                    have z0 := HX0.out.c0
                    have z1 := HX0.out.c1
                    have z2 := HX0.out.c2
                    have z3 := HX0.out.c3
                    have zf := HX0.out.f
                    go_wp2_with fail
                    refine bodyPost_ret (v := .tuple #[.agg ([.int .i64 0, .int .i64 0, .int .i64 0, .slice none 0 0] : List Value).toArray, .bool false]) (results_cell_tmp (p := 2) (q := 3) (ty := 62) rfl _ _ w.heap.size [.int .i64 0, .int .i64 0, .int .i64 0, .slice none 0 0] _ rfl (HX0.out.all _ _ _ _).range Tryz.underlying62 rfl (infoStepL _ _ _ _)) rfl ⟨by rw [HRN.out]; rfl, below_all HB0.out (Nat.le_refl _) _ _ _ _⟩
                  · have hul : 1 ≤ u.length := by
                      unfold Lib.hasPrefix at hhp
                      rcases u with _ | ⟨c0, ur⟩
                      · cases hhp
                      · simp
                    obtain ⟨u1, hu1⟩ : ∃ u1, u.drop 1 = u1 := ⟨_, rfl⟩
                    obtain ⟨r8, hr8⟩ : ∃ r8, bytesOfP u1 = r8 := ⟨_, rfl⟩
                    have hl1 : u1.length ≤ 2000000 := by rw [← hu1, List.length_drop]; omega
                    have C8 := hid (bytesOf_any (s := u1) (w := w13) (by omega))
                    rw [hr8] at C8
                    have U2 : (⟨u.toArray⟩ : ByteArray).extract 1 u.length = ⟨u1.toArray⟩ := by
                      have := Lib.Pa.extract_from ⟨u.toArray⟩ 1
                      rw [show (⟨u.toArray⟩ : ByteArray).size = u.length from bszP u] at this
                      rw [← hu1]
                      exact this
                    have HRD : Hid (readD (u :: L.drop 3) = r8.map (·, L.drop 3)) := hid (by unfold readD; simp only []; rw [if_pos hhp, hu1, hr8])
                    have HDRP := hid hdr
                    have HU8 : Hid (bytesOfP u1 = r8 ∧ u1.length ≤ 2000000) := hid ⟨hr8, hl1⟩
                    clear hr8 hhp hdr hlu hu hu1 hl1
                    go_wp2_with fail
                    refine C8.out.mono ?_
                    rintro e w14 ⟨hres, hb14⟩
                    rcases r8 with _ | bs
                    · have hres : e = .returned (.tuple #[.slice none 0 0, .bool false]) := hres
                      subst hres
                      have HRN : Hid (r = none) := hid (by rw [HF1.out, HDRP.out]; unfold dataP; rw [if_pos rfl, HRD.out]; rfl)
                      have HX0 := hid ((HX3.out.ext HBQ.out).ext hb14)
                      have HB0 := hid (HB3.out.trans ((HBQ.out.trans (hb14.mono HBQ.out.size)).mono HB3.out.size))
                      clear HF1 HRD HDRP hb14 C8 U2
                      have z0 := HX0.out.c0
                      have z1 := HX0.out.c1
                      have z2 := HX0.out.c2
                      have z3 := HX0.out.c3
                      have zf := HX0.out.f
                      go_wp2_with fail
                      refine bodyPost_ret (v := .tuple #[.agg ([.int .i64 0, .int .i64 0, .int .i64 0, .slice none 0 0] : List Value).toArray, .bool false]) (results_cell_tmp (p := 2) (q := 3) (ty := 62) rfl _ _ w.heap.size [.int .i64 0, .int .i64 0, .int .i64 0, .slice none 0 0] _ rfl (HX0.out.all _ _ _ _).range Tryz.underlying62 rfl (infoStepL _ _ _ _)) rfl ⟨by rw [HRN.out]; rfl, below_all HB0.out (Nat.le_refl _) _ _ _ _⟩
                    · obtain ⟨dv, rfl, hown⟩ := hres
                      obtain ⟨da, dc, rfl, hdr, hdg⟩ := hown.row
                      obtain ⟨dn, hdn⟩ : ∃ dn, bs.length = dn := ⟨_, rfl⟩
                      rw [hdn]
                      have HF2 : Hid (r = endP s ⟨xk, av, 0, bs⟩ (L.drop 3)) := hid (by rw [HF1.out, HDRP.out]; unfold dataP; rw [if_pos rfl, HRD.out]; rfl)
                      have HD0 : Hid (∀ x ∈ bs, x < 256) := hid (bytesOf_lt _ _ HU8.out.1)
                      have HDN := hid hdn
                      have HDL : Hid (dn ≤ 1000000) := hid (by have h1 := bytesOf_even _ _ HU8.out.1; have := HU8.out.2; omega)
                      have HBQ14 : Hid (Below w3.heap.size w3 w14) := hid (HBQ.out.trans (hb14.mono HBQ.out.size))
                      have HDG : Hid (∀ b off, da = some ⟨b, off, none⟩ → w.heap.size < b ∧ ¬ b = g7 ∧ b < w14.heap.size) := hid (fun b off e => by
                        have h5 := (World.ownsRow.lt hown b (by rw [e]; rfl)).2
                        have h1 := hdg b off e
                        have h2 := HX3.out.lt
                        have h3 := HBQ.out.size
                        have h4 := HXq.out.lt
                        exact ⟨by omega, by omega, h5⟩)
                      have HX14 := hid (HXq.out.ext hb14)
                      have HDR14 := hid hdr
                      have HLQ : Hid (L.drop 3 = [] ↔ q1 = 0) := hid (by rw [List.drop_eq_nil_iff, HM.out]; have := hjm.out; omega)
                      have k1 := HX14.out.c3
                      have k2 := HX14.out.f
                      have k3 : w14.drew.cell? ⟨g7, 3, none⟩ = some (.slice none 0 0) := HX14.out.c3
                      have k4 : ∀ j, w14.drew.frozen? ⟨g7, j, none⟩ = false := HX14.out.f
                      clear hdn hown hdr hdg hb14 C8 U2 HF1 HRD HDRP HU8 e0 s3
                      go_wp2_with fail
                      go_region_held3 (fun _ => True) (first | exact trivial) (fail)
                      clear k1 k2 k3 k4 UA
                      obtain ⟨w15, hw15⟩ : ∃ w15, (w14.setCell ⟨g7, 3, none⟩ (.slice da dn dc)).drew = w15 := ⟨_, rfl⟩
                      have HDB : Hid (Bx4 w15 g7 (.int .i64 xk) (.int .i64 av) (.int .i64 0) (.slice da dn dc)) := hid (by rw [← hw15]; exact (HX14.out.set3 _).ext (Below.refl _ _).drew)
                      have HMU : Hid (Mut (fun b => b = g7) w14 w15) := hid (by rw [← hw15]; exact (mut1 (w := w14) (s := g7) (i := 3) (v := .slice da dn dc)).trans (Mut.of_below (Below.refl _ _).drew))
                      have HDR : Hid (ByteRow w15 da bs) := hid (HDR14.out.mutT HMU.out fun b off e hne => (HDG.out b off e).2.1)
                      have HBQ : Hid (Below w3.heap.size w3 w15) := hid (HBQ14.out.trans (HMU.out.below HBQ14.out.size fun k e => e ▸ HNE.out.2.2.2.1))
                      have HDG : Hid (∀ b off, da = some ⟨b, off, none⟩ → w.heap.size < b ∧ b < w15.heap.size) := hid fun b off e => ⟨(HDG.out b off e).1, by have := (HDG.out b off e).2.2; have := HMU.out.size; omega⟩
                      rw [hw15]
                      clear hw15 HMU HDR14 HX14 HBQ14
                      have HST : Hid (StepR w15 da ⟨xk, av, 0, bs⟩) := hid ⟨HXK.out, ⟨HBA.out.1, HBA.out.2, (by show (-9223372036854775808 : Int) ≤ 0; decide), (by show (0 : Int) ≤ 9223372036854775807; decide), HD0.out⟩, HDR.out⟩
                      have HX0 := hid (HX3.out.ext HBQ.out)
                      have HB0 := hid (HB3.out.trans (HBQ.out.mono HB3.out.size))
                      have C9 := hid (line_any (c := dc) HST.out HDN.out HDL.out (HE.out.ext HB0.out).tab)
                      have y0 := HDB.out.c0
                      have y1 := HDB.out.c1
                      have y2 := HDB.out.c2
                      have y3 := HDB.out.c3
                      go_wp2_with fail
                      refine C9.out.mono ?_
                      rintro e w12 ⟨rfl, hb12⟩
                      have y0 := cell_toB y0 hb12
                      have y1 := cell_toB y1 hb12
                      have y2 := cell_toB y2 hb12
                      have y3 := cell_toB y3 hb12
                      have HX12 := hid (HX0.out.ext hb12)
                      have HB12 := hid (HB0.out.trans (hb12.mono HB0.out.size))
                      have HDR12 := hid (HDR.out.ext hb12)
                      have HSZ12 := hid hb12.size
                      clear hb12 C9 HX0 HB0 HDB HST HD0 HDR
                      rcases hlp : lineP ⟨xk, av, 0, bs⟩ with _ | t
                      · have HRN : Hid (r = none) := hid (by rw [HF2.out]; unfold endP; rw [hlp, if_neg (by simp)])
                        unfold lineV
                        clear hlp y0 y1 y2 y3
                        have z0 := HX12.out.c0
                        have z1 := HX12.out.c1
                        have z2 := HX12.out.c2
                        have z3 := HX12.out.c3
                        have zf := HX12.out.f
                        go_wp2_with fail
                        refine bodyPost_ret (v := .tuple #[.agg ([.int .i64 0, .int .i64 0, .int .i64 0, .slice none 0 0] : List Value).toArray, .bool false]) (results_cell_tmp (p := 2) (q := 3) (ty := 62) rfl _ _ w.heap.size [.int .i64 0, .int .i64 0, .int .i64 0, .slice none 0 0] _ rfl (HX12.out.all _ _ _ _).range Tryz.underlying62 rfl (infoStepL _ _ _ _)) rfl ⟨by rw [HRN.out]; rfl, below_all HB12.out (Nat.le_refl _) _ _ _ _⟩
                      · unfold lineV
                        by_cases hq0 : q1 = 0
                        · have acat := run_cat s [10] (by have := HS.out; omega) (by simp)
                          by_cases heq : t = s ++ [10]
                          · have u1 : (t != s ++ [10]) = false := by simp [heq]
                            have u2 : (t == s ++ [10]) = true := by simp [heq]
                            have HRS : Hid (r = some ⟨xk, av, 0, bs⟩) := hid (by rw [HF2.out]; unfold endP; rw [hlp, heq, if_pos ⟨rfl, HLQ.out.2 hq0⟩])
                            subst hq0
                            have z0 := HX12.out.c0
                            have z1 := HX12.out.c1
                            have z2 := HX12.out.c2
                            have z3 := HX12.out.c3
                            have zf := HX12.out.f
                            clear heq hlp
                            go_wp2_with fail
                            refine bodyPost_ret (v := .tuple #[.agg ([.int .i64 xk, .int .i64 av, .int .i64 0, .slice da dn dc] : List Value).toArray, .bool true]) (results_cell_tmp (p := 2) (q := 3) (ty := 62) rfl _ _ w.heap.size [.int .i64 xk, .int .i64 av, .int .i64 0, .slice da dn dc] _ rfl (HX12.out.all _ _ _ _).range Tryz.underlying62 rfl (infoStepL _ _ _ _)) rfl ⟨?_, below_all HB12.out (Nat.le_refl _) _ _ _ _⟩
                            rw [HRS.out]
                            refine ⟨da, dc, by rw [HDN.out], ?_, fun b off e => by have := HDG.out b off e; have := HSZ12.out; simp only [World.size_setCell]; omega⟩
                            exact HDR12.out.mutT (mut_all _ _ _ _ _ _) fun b off e hne h => by have := HDG.out b off e; omega
                          · have u1 : (t != s ++ [10]) = true := by simpa using heq
                            have u2 : (t == s ++ [10]) = false := by simpa using heq
                            have HRN : Hid (r = none) := hid (by rw [HF2.out]; unfold endP; rw [hlp, if_neg (fun h => heq (Option.some.inj h.1))])
                            subst hq0
                            clear heq hlp y0 y1 y2 y3
                            have z0 := HX12.out.c0
                            have z1 := HX12.out.c1
                            have z2 := HX12.out.c2
                            have z3 := HX12.out.c3
                            have zf := HX12.out.f
                            go_wp2_with fail
                            refine bodyPost_ret (v := .tuple #[.agg ([.int .i64 0, .int .i64 0, .int .i64 0, .slice none 0 0] : List Value).toArray, .bool false]) (results_cell_tmp (p := 2) (q := 3) (ty := 62) rfl _ _ w.heap.size [.int .i64 0, .int .i64 0, .int .i64 0, .slice none 0 0] _ rfl (HX12.out.all _ _ _ _).range Tryz.underlying62 rfl (infoStepL _ _ _ _)) rfl ⟨by rw [HRN.out]; rfl, below_all HB12.out (Nat.le_refl _) _ _ _ _⟩
                        · have HRN : Hid (r = none) := hid (by rw [HF2.out]; unfold endP; rw [if_neg (fun h => hq0 (HLQ.out.1 h.2))])
                          have gq : decide (0 < q1) = true := by simp; omega
                          have gq2 : decide ((0 : Int) < (q1 : Nat)) = true := by simp; omega
                          clear hlp y0 y1 y2 y3 hq0
                          have z0 := HX12.out.c0
                          have z1 := HX12.out.c1
                          have z2 := HX12.out.c2
                          have z3 := HX12.out.c3
                          have zf := HX12.out.f
                          go_wp2_with fail
                          refine bodyPost_ret (v := .tuple #[.agg ([.int .i64 0, .int .i64 0, .int .i64 0, .slice none 0 0] : List Value).toArray, .bool false]) (results_cell_tmp (p := 2) (q := 3) (ty := 62) rfl _ _ w.heap.size [.int .i64 0, .int .i64 0, .int .i64 0, .slice none 0 0] _ rfl (HX12.out.all _ _ _ _).range Tryz.underlying62 rfl (infoStepL _ _ _ _)) rfl ⟨by rw [HRN.out]; rfl, below_all HB12.out (Nat.le_refl _) _ _ _ _⟩
        · have HZG : Hid (n7 = g7 + 1) := HSX
          obtain ⟨i0, hi, hz0, hz1, hz2⟩ := info_parts infoPtr
          have HE7 : Hid (Below w3.heap.size w3 W7) := HB7
          go_wp2_with (at_builtin; refine wpList_appendEP (el := [.pointer (some ⟨g7, 2, none⟩)]) (b := W7.heap.size) Tryz.underlying118 hi hz0 hz1 hz2 rfl (by decide) (by decide) (HO7.out.ext ((Below.refl _ _).alloc (Nat.le_refl _) _)) rfl (fun u hu => by rw [List.mem_singleton.1 hu]; rfl) (fun j u hj => by match j, hj with | 0, hj => (simp at hj; subst hj; simp) | j + 1, hj => simp at hj) (by simp) (by have := HZ7.out; simp; omega) rfl rfl rfl rfl ?_; intro v8 W10 hown8 hm8 hn8)
          have hmw : Mut (fun g => g = n7) W7 W10 := (Mut.of_below ((Below.refl _ _).alloc (Nat.le_refl _) _)).trans (hm8.mono fun k _ e => by injection e with e; exact e.symm)
          have HX10 : Hid (Bx4 W10 g7 (.int .i64 xk) (.int .i64 (([] : List Int).getD 0 0)) (.int .i64 (([] : List Int).getD 1 0)) (.slice none 0 0)) := hid (HX7.out.mut hmw (by have := HZG.out; omega))
          have HS10 := hid (HS7.out.mut hmw (by have := HZG.out; have := HG7.out; omega))
          have HB10 : Hid (Below w3.heap.size w3 W10) := hid (HB7.out.trans (hmw.below HB7.out.size fun k e => by have := HZG.out; have := HG7.out; omega))
          obtain ⟨nb, nc, hv8, hnb0, hnbl, hnbc⟩ := hown8.at (i := 0) rfl
          have hnb1 : ∀ j u, [Value.pointer (some ⟨g7, 2, none⟩)][j]? = some u → W10.cell? ⟨nb, 1 * 1 + j, none⟩ = some u := by
            obtain ⟨g, c, e, -, -, h⟩ := hown8.at (i := 1) rfl
            rw [hv8] at e
            injection e with e1 e2 e3
            injection e1 with e1
            injection e1 with e1 e4
            rw [← e1] at h
            exact h
          have HN10 : Hid (∀ i, i < 2 → W10.cell? ⟨nb, i, none⟩ = some (.pointer (some ⟨g7, i + 1, none⟩))) := hid fun i hi => by
            have : i = 0 ∨ i = 1 := by omega
            rcases this with rfl | rfl
            · simpa using hnbc 0 _ rfl
            · simpa using hnb1 0 _ rfl
          have HNE : Hid (¬ sg = g7 ∧ ¬ nb = g7 ∧ ¬ sb = g7 ∧ w3.heap.size ≤ g7 ∧ nb < W10.heap.size) := hid ⟨by have := HG7.out; omega, by have := HZG.out; omega, by have := HSB.out; have := HG7.out; omega, HG7.out.1, hnbl⟩
          have hv9 : v8 = .slice (some ⟨nb, 0, none⟩) 2 nc := hv8
          have UL : ∀ W, (Builtin.len_ #[118] 3 #[.slice (some ⟨nb, 0, none⟩) 2 nc]).run Tryz.prog W = .ok (.int .i64 2) W := fun W => run_len_slice (w := W) 118 3 (some ⟨nb, 0, none⟩) 2 nc (by kernel_rfl)
          clear hv8
          subst hv9
          clear hmw hm8 hn8 hown8 hnbc hnb1 hnb0 hnbl HX7 HS7 HB7 HE7 HO7 HZ7 HSX hi hz0 hz1 hz2 s2
          go_wp2_with fail
          rw [UL]
          simp only [Result.andThen]
          rw [Oper.upon_value]
          go_wp2_with fail
          go_loopw [8, 45] (fun rv iv wr => ∃ (l : List Int) (j q : Nat) (ra : Option Addr), iv = .int .i64 j ∧ j ≤ 2 ∧ rv = .slice ra q q ∧ Hid (q + j = m) ∧ Hid (0 < q → ra = some ⟨sb, 1 + j, none⟩) ∧ Hid (l.length = j) ∧ Hid (∀ v ∈ l, -9223372036854775808 ≤ v ∧ v ≤ 9223372036854775807) ∧ Hid (r = numsFrom s ⟨xk, word, true, bytes⟩ l (L.drop (1 + j))) ∧ Hid (Bx4 wr g7 (.int .i64 xk) (.int .i64 (l.getD 0 0)) (.int .i64 (l.getD 1 0)) (.slice none 0 0)) ∧ Hid (Mut (fun b => b = g7) W10 wr)) (fun _ iv _ => 2 - (intOf iv).toNat)
          case atStart => exact ⟨[], 0, m, a1, rfl, by omega, rfl, hid rfl, hid (fun h => HA1.out h), hid rfl, hid (by simp), hid HRX.out, HX10, hid (Mut.refl _ _)⟩
          case round =>
            obtain ⟨l, j, q, ra, rfl, hj, rfl, hjm, hra, hjl, hbd, hf, hxq, hmq⟩ := hrel
            by_cases hlj : j < 2
            · have hj01 : j = 0 ∨ j = 1 := by omega
              rcases hj01 with rfl | rfl
              · obtain rfl : l = [] := List.eq_nil_of_length_eq_zero hjl.out
                have PN : wr.cell? ⟨nb, 0, none⟩ = some (.pointer (some ⟨g7, 1, none⟩)) := (hmq.out.cell (p := ⟨nb, 0, none⟩) HNE.out.2.2.2.2 HNE.out.2.1).trans (HN10.out 0 (by decide))
                have HBQ : Hid (Below w3.heap.size w3 wr) := hid (HB10.out.trans (hmq.out.below HB10.out.size fun k e => e ▸ HNE.out.2.2.2.1))
                have HX0 := hid (HX3.out.ext HBQ.out)
                have HB0 := hid (HB3.out.trans (HBQ.out.mono HB3.out.size))
                by_cases hm0 : q = 0
                · have HRN : Hid (r = none) := hid (by
                    have e : L.drop 1 = [] := List.drop_eq_nil_of_le (by rw [HM.out]; have := hjm.out; omega)
                    rw [hf.out, e]; rw [numsFrom_nil]; rfl)
                  subst hm0
                  have z0 := HX0.out.c0
                  have z1 := HX0.out.c1
                  have z2 := HX0.out.c2
                  have z3 := HX0.out.c3
                  have zf := HX0.out.f
                  go_wp2_with fail
                  refine bodyPost_ret (v := .tuple #[.agg ([.int .i64 0, .int .i64 0, .int .i64 0, .slice none 0 0] : List Value).toArray, .bool false]) (results_cell_tmp (p := 2) (q := 3) (ty := 62) rfl _ _ w.heap.size [.int .i64 0, .int .i64 0, .int .i64 0, .slice none 0 0] _ rfl (HX0.out.all _ _ _ _).range Tryz.underlying62 rfl (infoStepL _ _ _ _)) rfl ⟨by rw [HRN.out]; rfl, below_all HB0.out (Nat.le_refl _) _ _ _ _⟩
                · obtain ⟨u, hu⟩ : ∃ u, L[1]? = some u := ⟨L[1]'(by rw [HM.out]; have := hjm.out; omega), List.getElem?_eq_getElem _⟩
                  have hdr : L.drop 1 = u :: L.drop 2 := by
                    have hk := (List.getElem?_eq_some_iff.1 hu).1
                    rw [List.drop_eq_getElem_cons hk]
                    rw [List.getElem?_eq_getElem hk] at hu
                    rw [Option.some.inj hu]
                  have hlu : u.length ≤ 2000000 := by have := HLE.out u (List.mem_of_getElem? hu); have := HS.out; omega
                  have e0 : wr.cell? ⟨sb, 1, none⟩ = some (.string ⟨u.toArray⟩) := cell_toB (HR3.out.get hu) HBQ.out
                  have C7 := hid (atoiP_any u (by omega) wr (HE.out.ext HB0.out))
                  have HF3 : Hid (r = match readN (u :: L.drop 2) with | none => none | some (b, r2) => numsFrom s ⟨xk, word, true, bytes⟩ ([] ++ [b]) r2) := hid (by rw [hf.out, hdr]; rw [numsFrom_nil]; rfl)
                  obtain ⟨q1, rfl⟩ : ∃ q1, q = q1 + 1 := ⟨q - 1, by omega⟩
                  obtain rfl : ra = some ⟨sb, 1, none⟩ := hra.out (by omega)
                  obtain ⟨a2, ha2, UA⟩ := run_fromA sb 1 q1
                  have HA2 := hid ha2
                  clear hu hdr hlu hm0 ha2 hra
                  go_wp2_with fail
                  refine C7.out.mono ?_
                  rintro e w11 ⟨u0, ev, rfl, hat, hb11⟩
                  have HX11 := hid (HX0.out.ext hb11)
                  have HQ11 := hid (hxq.out.ext hb11)
                  have HB11 := hid (HBQ.out.trans (hb11.mono HBQ.out.size))
                  have HM11 : Hid (Mut (fun b => b = g7) W10 w11) := hid (hmq.out.trans (Mut.of_below hb11))
                  have HAT := hid hat
                  clear hat hb11 C7 HX0 hxq HBQ hmq e0 PN
                  rcases HAT.out with ⟨hok, rfl⟩ | ⟨hbad, t1, N1, rfl⟩
                  · have HF4 : Hid (r = numsFrom s ⟨xk, word, true, bytes⟩ (([] : List Int) ++ [u0]) (L.drop 2)) := hid (by rw [HF3.out]; simp only [readN, hok])
                    have HBD : Hid (∀ v ∈ ([] : List Int) ++ [u0], -9223372036854775808 ≤ v ∧ v ≤ 9223372036854775807) := hid fun v hv => by
                      rcases List.mem_append.1 hv with hv | hv
                      · exact hbd.out v hv
                      · rw [List.mem_singleton.1 hv]; exact Lib.atoiAll_bounds hok
                    have k1 : w11.drew.cell? ⟨g7, 1, none⟩ = some _ := HQ11.out.c1
                    have k2 : w11.drew.frozen? ⟨g7, 1, none⟩ = false := HQ11.out.f 1
                    have k3 : w11.cell? ⟨g7, 1, none⟩ = some _ := HQ11.out.c1
                    have k4 : w11.frozen? ⟨g7, 1, none⟩ = false := HQ11.out.f 1
                    clear hok HAT HF3
                    go_wp2_with fail
                    go_region_held3 (fun _ => True) (first | exact trivial) (fail)
                    clear k1 k2 k3 k4 UA
                    go_wp2_with fail
                    go_roundw
                    case rel => exact ⟨([] : List Int) ++ [u0], 1, q1, a2, by go_num, by omega, rfl, hid (by have := hjm.out; omega), hid (fun h => HA2.out h), hid rfl, HBD, HF4, hid ((HQ11.out.ext (Below.refl _ _).drew).set1 _), hid (mut_set (HM11.out.trans (Mut.of_below (Below.refl _ _).drew)) g7 1 _ rfl)⟩
                    case measure => simp [intOf]
                  · have HRN : Hid (r = none) := hid (by
                      rw [HF3.out]
                      simp only [readN]
                      rcases hr1 : Lib.atoiAll u with n | _ | _
                      · rw [hr1] at hbad; cases hbad
                      · rfl
                      · rfl)
                    have HB0 := hid (HB3.out.trans (HB11.out.mono HB3.out.size))
                    clear hbad HAT HF3
                    have z0 := HX11.out.c0
                    have z1 := HX11.out.c1
                    have z2 := HX11.out.c2
                    have z3 := HX11.out.c3
                    have zf := HX11.out.f
                    go_wp2_with fail
                    refine bodyPost_ret (v := .tuple #[.agg ([.int .i64 0, .int .i64 0, .int .i64 0, .slice none 0 0] : List Value).toArray, .bool false]) (results_cell_tmp (p := 2) (q := 3) (ty := 62) rfl _ _ w.heap.size [.int .i64 0, .int .i64 0, .int .i64 0, .slice none 0 0] _ rfl (HX11.out.all _ _ _ _).range Tryz.underlying62 rfl (infoStepL _ _ _ _)) rfl ⟨by rw [HRN.out]; rfl, below_all HB0.out (Nat.le_refl _) _ _ _ _⟩
              · obtain ⟨l0, rfl⟩ : ∃ v, l = [v] := by have := hjl.out; match l, this with | [v], _ => exact ⟨v, rfl⟩
                have PN : wr.cell? ⟨nb, 1, none⟩ = some (.pointer (some ⟨g7, 2, none⟩)) := (hmq.out.cell (p := ⟨nb, 1, none⟩) HNE.out.2.2.2.2 HNE.out.2.1).trans (HN10.out 1 (by decide))
                have HBQ : Hid (Below w3.heap.size w3 wr) := hid (HB10.out.trans (hmq.out.below HB10.out.size fun k e => e ▸ HNE.out.2.2.2.1))
                have HX0 := hid (HX3.out.ext HBQ.out)
                have HB0 := hid (HB3.out.trans (HBQ.out.mono HB3.out.size))
                by_cases hm0 : q = 0
                · have HRN : Hid (r = none) := hid (by
                    have e : L.drop 2 = [] := List.drop_eq_nil_of_le (by rw [HM.out]; have := hjm.out; omega)
                    rw [hf.out, e]; rfl)
                  subst hm0
                  have z0 := HX0.out.c0
                  have z1 := HX0.out.c1
                  have z2 := HX0.out.c2
                  have z3 := HX0.out.c3
                  have zf := HX0.out.f
                  go_wp2_with fail
                  refine bodyPost_ret (v := .tuple #[.agg ([.int .i64 0, .int .i64 0, .int .i64 0, .slice none 0 0] : List Value).toArray, .bool false]) (results_cell_tmp (p := 2) (q := 3) (ty := 62) rfl _ _ w.heap.size [.int .i64 0, .int .i64 0, .int .i64 0, .slice none 0 0] _ rfl (HX0.out.all _ _ _ _).range Tryz.underlying62 rfl (infoStepL _ _ _ _)) rfl ⟨by rw [HRN.out]; rfl, below_all HB0.out (Nat.le_refl _) _ _ _ _⟩
                · obtain ⟨u, hu⟩ : ∃ u, L[2]? = some u := ⟨L[2]'(by rw [HM.out]; have := hjm.out; omega), List.getElem?_eq_getElem _⟩
                  have hdr : L.drop 2 = u :: L.drop 3 := by
                    have hk := (List.getElem?_eq_some_iff.1 hu).1
                    rw [List.drop_eq_getElem_cons hk]
                    rw [List.getElem?_eq_getElem hk] at hu
                    rw [Option.some.inj hu]
                  have hlu : u.length ≤ 2000000 := by have := HLE.out u (List.mem_of_getElem? hu); have := HS.out; omega
                  have e0 : wr.cell? ⟨sb, 2, none⟩ = some (.string ⟨u.toArray⟩) := cell_toB (HR3.out.get hu) HBQ.out
                  have C7 := hid (atoiP_any u (by omega) wr (HE.out.ext HB0.out))
                  have HF3 : Hid (r = match readN (u :: L.drop 3) with | none => none | some (b, r2) => numsFrom s ⟨xk, word, true, bytes⟩ ([l0] ++ [b]) r2) := hid (by rw [hf.out, hdr]; rw [numsFrom_one _ _ _ _ rfl]; rfl)
                  obtain ⟨q1, rfl⟩ : ∃ q1, q = q1 + 1 := ⟨q - 1, by omega⟩
                  obtain rfl : ra = some ⟨sb, 2, none⟩ := hra.out (by omega)
                  obtain ⟨a2, ha2, UA⟩ := run_fromA sb 2 q1
                  have HA2 := hid ha2
                  clear hu hdr hlu hm0 ha2 hra
                  go_wp2_with fail
                  refine C7.out.mono ?_
                  rintro e w11 ⟨u0, ev, rfl, hat, hb11⟩
                  have HX11 := hid (HX0.out.ext hb11)
                  have HQ11 := hid (hxq.out.ext hb11)
                  have HB11 := hid (HBQ.out.trans (hb11.mono HBQ.out.size))
                  have HM11 : Hid (Mut (fun b => b = g7) W10 w11) := hid (hmq.out.trans (Mut.of_below hb11))
                  have HAT := hid hat
                  clear hat hb11 C7 HX0 hxq HBQ hmq e0 PN
                  rcases HAT.out with ⟨hok, rfl⟩ | ⟨hbad, t1, N1, rfl⟩
                  · have HF4 : Hid (r = numsFrom s ⟨xk, word, true, bytes⟩ ([l0] ++ [u0]) (L.drop 3)) := hid (by rw [HF3.out]; simp only [readN, hok])
                    have HBD : Hid (∀ v ∈ [l0] ++ [u0], -9223372036854775808 ≤ v ∧ v ≤ 9223372036854775807) := hid fun v hv => by
                      rcases List.mem_append.1 hv with hv | hv
                      · exact hbd.out v hv
                      · rw [List.mem_singleton.1 hv]; exact Lib.atoiAll_bounds hok
                    have k1 : w11.drew.cell? ⟨g7, 2, none⟩ = some _ := HQ11.out.c2
                    have k2 : w11.drew.frozen? ⟨g7, 2, none⟩ = false := HQ11.out.f 2
                    have k3 : w11.cell? ⟨g7, 2, none⟩ = some _ := HQ11.out.c2
                    have k4 : w11.frozen? ⟨g7, 2, none⟩ = false := HQ11.out.f 2
                    clear hok HAT HF3
                    go_wp2_with fail
                    go_region_held3 (fun _ => True) (first | exact trivial) (fail)
                    clear k1 k2 k3 k4 UA
                    go_wp2_with fail
                    go_roundw
                    case rel => exact ⟨[l0] ++ [u0], 2, q1, a2, by go_num, by omega, rfl, hid (by have := hjm.out; omega), hid (fun h => HA2.out h), hid rfl, HBD, HF4, hid ((HQ11.out.ext (Below.refl _ _).drew).set2 _), hid (mut_set (HM11.out.trans (Mut.of_below (Below.refl _ _).drew)) g7 2 _ rfl)⟩
                    case measure => simp [intOf]
                  · have HRN : Hid (r = none) := hid (by
                      rw [HF3.out]
                      simp only [readN]
                      rcases hr1 : Lib.atoiAll u with n | _ | _
                      · rw [hr1] at hbad; cases hbad
                      · rfl
                      · rfl)
                    have HB0 := hid (HB3.out.trans (HB11.out.mono HB3.out.size))
                    clear hbad HAT HF3
                    have z0 := HX11.out.c0
                    have z1 := HX11.out.c1
                    have z2 := HX11.out.c2
                    have z3 := HX11.out.c3
                    have zf := HX11.out.f
                    go_wp2_with fail
                    refine bodyPost_ret (v := .tuple #[.agg ([.int .i64 0, .int .i64 0, .int .i64 0, .slice none 0 0] : List Value).toArray, .bool false]) (results_cell_tmp (p := 2) (q := 3) (ty := 62) rfl _ _ w.heap.size [.int .i64 0, .int .i64 0, .int .i64 0, .slice none 0 0] _ rfl (HX11.out.all _ _ _ _).range Tryz.underlying62 rfl (infoStepL _ _ _ _)) rfl ⟨by rw [HRN.out]; rfl, below_all HB0.out (Nat.le_refl _) _ _ _ _⟩
            · obtain rfl : j = 2 := by omega
              obtain ⟨av, bv, rfl⟩ : ∃ v u, l = [v, u] := by have := hjl.out; match l, this with | [v, u], _ => exact ⟨v, u, rfl⟩
              have HBA := hid (hbd.out av (by simp))
              have HBB := hid (hbd.out bv (by simp))
              have hf1 : r = dataP s ⟨xk, word, true, bytes⟩ av bv (L.drop 3) := by rw [hf.out]; rfl
              have HXq : Hid (Bx4 wr g7 (.int .i64 xk) (.int .i64 av) (.int .i64 bv) (.slice none 0 0)) := hid hxq.out
              have HSQ := hid (HS10.out.mut hmq.out HNE.out.1)
              have s3 := HSQ.out.c3
              have HBQ : Hid (Below w3.heap.size w3 wr) := hid (HB10.out.trans (hmq.out.below HB10.out.size fun k e => e ▸ HNE.out.2.2.2.1))
              have HF1 := hid hf1
              clear hf1 hf hxq hmq hbd hjl HN10 HX10 HS10
              cases bytes
              · have HF2 : Hid (r = endP s ⟨xk, av, bv, []⟩ (L.drop 3)) := hid (by rw [HF1.out]; rfl)
                have HDB : Hid (Bx4 wr g7 (.int .i64 xk) (.int .i64 av) (.int .i64 bv) (.slice none 0 0)) := HXq
                have HD0 : Hid (∀ x ∈ ([] : List Nat), x < 256) := hid (by simp)
                have HDR : Hid (ByteRow wr none []) := hid (.inl rfl)
                have HDN : Hid (([] : List Nat).length = 0) := hid rfl
                have HDL : Hid ((0 : Nat) ≤ 1000000) := hid (by decide)
                have HDG : Hid (∀ b off, (none : Option Addr) = some ⟨b, off, none⟩ → w.heap.size < b ∧ b < wr.heap.size) := hid (fun b off e => by cases e)
                have HLQ : Hid (L.drop 3 = [] ↔ q = 0) := hid (by rw [List.drop_eq_nil_iff, HM.out]; have := hjm.out; omega)
                have HST : Hid (StepR wr none ⟨xk, av, bv, []⟩) := hid ⟨HXK.out, ⟨HBA.out.1, HBA.out.2, HBB.out.1, HBB.out.2, HD0.out⟩, HDR.out⟩
                have HX0 := hid (HX3.out.ext HBQ.out)
                have HB0 := hid (HB3.out.trans (HBQ.out.mono HB3.out.size))
                have C9 := hid (line_any (c := 0) HST.out HDN.out HDL.out (HE.out.ext HB0.out).tab)
                have y0 := HDB.out.c0
                have y1 := HDB.out.c1
                have y2 := HDB.out.c2
                have y3 := HDB.out.c3
                go_wp2_with fail
                refine C9.out.mono ?_
                rintro e w12 ⟨rfl, hb12⟩
                have y0 := cell_toB y0 hb12
                have y1 := cell_toB y1 hb12
                have y2 := cell_toB y2 hb12
                have y3 := cell_toB y3 hb12
                have HX12 := hid (HX0.out.ext hb12)
                have HB12 := hid (HB0.out.trans (hb12.mono HB0.out.size))
                have HDR12 := hid (HDR.out.ext hb12)
                have HSZ12 := hid hb12.size
                clear hb12 C9 HX0 HB0 HDB HST HD0 HDR
                rcases hlp : lineP ⟨xk, av, bv, []⟩ with _ | t
                · have HRN : Hid (r = none) := hid (by rw [HF2.out]; unfold endP; rw [hlp, if_neg (by simp)])
                  unfold lineV
                  clear hlp y0 y1 y2 y3
                  have z0 := HX12.out.c0
                  have z1 := HX12.out.c1
                  have z2 := HX12.out.c2
                  have z3 := HX12.out.c3
                  have zf := HX12.out.f
                  go_wp2_with fail
                  refine bodyPost_ret (v := .tuple #[.agg ([.int .i64 0, .int .i64 0, .int .i64 0, .slice none 0 0] : List Value).toArray, .bool false]) (results_cell_tmp (p := 2) (q := 3) (ty := 62) rfl _ _ w.heap.size [.int .i64 0, .int .i64 0, .int .i64 0, .slice none 0 0] _ rfl (HX12.out.all _ _ _ _).range Tryz.underlying62 rfl (infoStepL _ _ _ _)) rfl ⟨by rw [HRN.out]; rfl, below_all HB12.out (Nat.le_refl _) _ _ _ _⟩
                · unfold lineV
                  by_cases hq0 : q = 0
                  · have acat := run_cat s [10] (by have := HS.out; omega) (by simp)
                    by_cases heq : t = s ++ [10]
                    · have u1 : (t != s ++ [10]) = false := by simp [heq]
                      have u2 : (t == s ++ [10]) = true := by simp [heq]
                      have HRS : Hid (r = some ⟨xk, av, bv, []⟩) := hid (by rw [HF2.out]; unfold endP; rw [hlp, heq, if_pos ⟨rfl, HLQ.out.2 hq0⟩])
                      subst hq0
                      have z0 := HX12.out.c0
                      have z1 := HX12.out.c1
                      have z2 := HX12.out.c2
                      have z3 := HX12.out.c3
                      have zf := HX12.out.f
                      clear heq hlp
                      go_wp2_with fail
                      refine bodyPost_ret (v := .tuple #[.agg ([.int .i64 xk, .int .i64 av, .int .i64 bv, .slice none 0 0] : List Value).toArray, .bool true]) (results_cell_tmp (p := 2) (q := 3) (ty := 62) rfl _ _ w.heap.size [.int .i64 xk, .int .i64 av, .int .i64 bv, .slice none 0 0] _ rfl (HX12.out.all _ _ _ _).range Tryz.underlying62 rfl (infoStepL _ _ _ _)) rfl ⟨?_, below_all HB12.out (Nat.le_refl _) _ _ _ _⟩
                      rw [HRS.out]
                      refine ⟨none, 0, by rw [HDN.out], ?_, fun b off e => by have := HDG.out b off e; have := HSZ12.out; simp only [World.size_setCell]; omega⟩
                      exact HDR12.out.mutT (mut_all _ _ _ _ _ _) fun b off e hne h => by have := HDG.out b off e; omega
                    · have u1 : (t != s ++ [10]) = true := by simpa using heq
                      have u2 : (t == s ++ [10]) = false := by simpa using heq
                      have HRN : Hid (r = none) := hid (by rw [HF2.out]; unfold endP; rw [hlp, if_neg (fun h => heq (Option.some.inj h.1))])
                      subst hq0
                      clear heq hlp y0 y1 y2 y3
                      have z0 := HX12.out.c0
                      have z1 := HX12.out.c1
                      have z2 := HX12.out.c2
                      have z3 := HX12.out.c3
                      have zf := HX12.out.f
                      go_wp2_with fail
                      refine bodyPost_ret (v := .tuple #[.agg ([.int .i64 0, .int .i64 0, .int .i64 0, .slice none 0 0] : List Value).toArray, .bool false]) (results_cell_tmp (p := 2) (q := 3) (ty := 62) rfl _ _ w.heap.size [.int .i64 0, .int .i64 0, .int .i64 0, .slice none 0 0] _ rfl (HX12.out.all _ _ _ _).range Tryz.underlying62 rfl (infoStepL _ _ _ _)) rfl ⟨by rw [HRN.out]; rfl, below_all HB12.out (Nat.le_refl _) _ _ _ _⟩
                  · have HRN : Hid (r = none) := hid (by rw [HF2.out]; unfold endP; rw [if_neg (fun h => hq0 (HLQ.out.1 h.2))])
                    have gq : decide (0 < q) = true := by simp; omega
                    have gq2 : decide ((0 : Int) < (q : Nat)) = true := by simp; omega
                    clear hlp y0 y1 y2 y3 hq0
                    have z0 := HX12.out.c0
                    have z1 := HX12.out.c1
                    have z2 := HX12.out.c2
                    have z3 := HX12.out.c3
                    have zf := HX12.out.f
                    go_wp2_with fail
                    refine bodyPost_ret (v := .tuple #[.agg ([.int .i64 0, .int .i64 0, .int .i64 0, .slice none 0 0] : List Value).toArray, .bool false]) (results_cell_tmp (p := 2) (q := 3) (ty := 62) rfl _ _ w.heap.size [.int .i64 0, .int .i64 0, .int .i64 0, .slice none 0 0] _ rfl (HX12.out.all _ _ _ _).range Tryz.underlying62 rfl (infoStepL _ _ _ _)) rfl ⟨by rw [HRN.out]; rfl, below_all HB12.out (Nat.le_refl _) _ _ _ _⟩
              · by_cases hm0 : q = 0
                · have HRN : Hid (r = none) := hid (by
                    have e : L.drop 3 = [] := List.drop_eq_nil_of_le (by rw [HM.out]; have := hjm.out; omega)
                    rw [HF1.out, e]; rfl)
                  have HX0 := hid ((HX3.out.ext HBQ.out))
                  have HB0 := hid (HB3.out.trans (HBQ.out.mono HB3.out.size))
                  subst hm0
                  clear HF1 hjm
                  have z0 := HX0.out.c0
                  have z1 := HX0.out.c1
                  have z2 := HX0.out.c2
                  have z3 := HX0.out.c3
                  have zf := HX0.out.f
                  go_wp2_with fail
                  refine bodyPost_ret (v := .tuple #[.agg ([.int .i64 0, .int .i64 0, .int .i64 0, .slice none 0 0] : List Value).toArray, .bool false]) (results_cell_tmp (p := 2) (q := 3) (ty := 62) rfl _ _ w.heap.size [.int .i64 0, .int .i64 0, .int .i64 0, .slice none 0 0] _ rfl (HX0.out.all _ _ _ _).range Tryz.underlying62 rfl (infoStepL _ _ _ _)) rfl ⟨by rw [HRN.out]; rfl, below_all HB0.out (Nat.le_refl _) _ _ _ _⟩
                · obtain ⟨u, hu⟩ : ∃ u, L[3]? = some u := ⟨L[3]'(by rw [HM.out]; have := hjm.out; omega), List.getElem?_eq_getElem _⟩
                  have hdr : L.drop 3 = u :: L.drop 4 := by
                    have hk := (List.getElem?_eq_some_iff.1 hu).1
                    rw [List.drop_eq_getElem_cons hk]
                    rw [List.getElem?_eq_getElem hk] at hu
                    rw [Option.some.inj hu]
                  have hlu : u.length ≤ 2000000 := by have := HLE.out u (List.mem_of_getElem? hu); have := HS.out; omega
                  have e0 : wr.cell? ⟨sb, 3, none⟩ = some (.string ⟨u.toArray⟩) := cell_toB (HR3.out.get hu) HBQ.out
                  obtain ⟨hp, hhp⟩ : ∃ hp, Lib.hasPrefix u [120] = hp := ⟨_, rfl⟩
                  have C7 := hid (hasPrefixP_any u [120] wr)
                  rw [hhp] at C7
                  obtain ⟨q1, rfl⟩ : ∃ q1, q = q1 + 1 := ⟨q - 1, by omega⟩
                  obtain rfl : ra = some ⟨sb, 3, none⟩ := hra.out (by omega)
                  obtain ⟨a2, ha2, UA⟩ := run_fromA sb 3 q1
                  have HA2 := hid ha2
                  clear ha2 hra hm0
                  go_wp2_with fail
                  refine C7.out.mono ?_
                  rintro e w13 ⟨rfl, rfl⟩
                  clear C7
                  cases hp
                  · have HRN : Hid (r = none) := hid (by rw [HF1.out, hdr]; unfold dataP readD; simp [hhp])
                    have HX0 := hid (HX3.out.ext HBQ.out)
                    have HB0 := hid (HB3.out.trans (HBQ.out.mono HB3.out.size))
                    clear HF1 hdr hhp
                    have z0 := HX0.out.c0
                    have z1 := HX0.out.c1
                    have z2 := HX0.out.c2
                    have z3 := HX0.out.c3
                    have zf := HX0.out.f
                    go_wp2_with fail
                    refine bodyPost_ret (v := .tuple #[.agg ([.int .i64 0, .int .i64 0, .int .i64 0, .slice none 0 0] : List Value).toArray, .bool false]) (results_cell_tmp (p := 2) (q := 3) (ty := 62) rfl _ _ w.heap.size [.int .i64 0, .int .i64 0, .int .i64 0, .slice none 0 0] _ rfl (HX0.out.all _ _ _ _).range Tryz.underlying62 rfl (infoStepL _ _ _ _)) rfl ⟨by rw [HRN.out]; rfl, below_all HB0.out (Nat.le_refl _) _ _ _ _⟩
                  · have hul : 1 ≤ u.length := by
                      unfold Lib.hasPrefix at hhp
                      rcases u with _ | ⟨c0, ur⟩
                      · cases hhp
                      · simp
                    obtain ⟨u1, hu1⟩ : ∃ u1, u.drop 1 = u1 := ⟨_, rfl⟩
                    obtain ⟨r8, hr8⟩ : ∃ r8, bytesOfP u1 = r8 := ⟨_, rfl⟩
                    have hl1 : u1.length ≤ 2000000 := by rw [← hu1, List.length_drop]; omega
                    have C8 := hid (bytesOf_any (s := u1) (w := w13) (by omega))
                    rw [hr8] at C8
                    have U2 : (⟨u.toArray⟩ : ByteArray).extract 1 u.length = ⟨u1.toArray⟩ := by
                      have := Lib.Pa.extract_from ⟨u.toArray⟩ 1
                      rw [show (⟨u.toArray⟩ : ByteArray).size = u.length from bszP u] at this
                      rw [← hu1]
                      exact this
                    have HRD : Hid (readD (u :: L.drop 4) = r8.map (·, L.drop 4)) := hid (by unfold readD; simp only []; rw [if_pos hhp, hu1, hr8])
                    have HDRP := hid hdr
                    have HU8 : Hid (bytesOfP u1 = r8 ∧ u1.length ≤ 2000000) := hid ⟨hr8, hl1⟩
                    clear hr8 hhp hdr hlu hu hu1 hl1
                    go_wp2_with fail
                    refine C8.out.mono ?_
                    rintro e w14 ⟨hres, hb14⟩
                    rcases r8 with _ | bs
                    · have hres : e = .returned (.tuple #[.slice none 0 0, .bool false]) := hres
                      subst hres
                      have HRN : Hid (r = none) := hid (by rw [HF1.out, HDRP.out]; unfold dataP; rw [if_pos rfl, HRD.out]; rfl)
                      have HX0 := hid ((HX3.out.ext HBQ.out).ext hb14)
                      have HB0 := hid (HB3.out.trans ((HBQ.out.trans (hb14.mono HBQ.out.size)).mono HB3.out.size))
                      clear HF1 HRD HDRP hb14 C8 U2
                      have z0 := HX0.out.c0
                      have z1 := HX0.out.c1
                      have z2 := HX0.out.c2
                      have z3 := HX0.out.c3
                      have zf := HX0.out.f
                      go_wp2_with fail
                      refine bodyPost_ret (v := .tuple #[.agg ([.int .i64 0, .int .i64 0, .int .i64 0, .slice none 0 0] : List Value).toArray, .bool false]) (results_cell_tmp (p := 2) (q := 3) (ty := 62) rfl _ _ w.heap.size [.int .i64 0, .int .i64 0, .int .i64 0, .slice none 0 0] _ rfl (HX0.out.all _ _ _ _).range Tryz.underlying62 rfl (infoStepL _ _ _ _)) rfl ⟨by rw [HRN.out]; rfl, below_all HB0.out (Nat.le_refl _) _ _ _ _⟩
                    · obtain ⟨dv, rfl, hown⟩ := hres
                      obtain ⟨da, dc, rfl, hdr, hdg⟩ := hown.row
                      obtain ⟨dn, hdn⟩ : ∃ dn, bs.length = dn := ⟨_, rfl⟩
                      rw [hdn]
                      have HF2 : Hid (r = endP s ⟨xk, av, bv, bs⟩ (L.drop 4)) := hid (by rw [HF1.out, HDRP.out]; unfold dataP; rw [if_pos rfl, HRD.out]; rfl)
                      have HD0 : Hid (∀ x ∈ bs, x < 256) := hid (bytesOf_lt _ _ HU8.out.1)
                      have HDN := hid hdn
                      have HDL : Hid (dn ≤ 1000000) := hid (by have h1 := bytesOf_even _ _ HU8.out.1; have := HU8.out.2; omega)
                      have HBQ14 : Hid (Below w3.heap.size w3 w14) := hid (HBQ.out.trans (hb14.mono HBQ.out.size))
                      have HDG : Hid (∀ b off, da = some ⟨b, off, none⟩ → w.heap.size < b ∧ ¬ b = g7 ∧ b < w14.heap.size) := hid (fun b off e => by
                        have h5 := (World.ownsRow.lt hown b (by rw [e]; rfl)).2
                        have h1 := hdg b off e
                        have h2 := HX3.out.lt
                        have h3 := HBQ.out.size
                        have h4 := HXq.out.lt
                        exact ⟨by omega, by omega, h5⟩)
                      have HX14 := hid (HXq.out.ext hb14)
                      have HDR14 := hid hdr
                      have HLQ : Hid (L.drop 4 = [] ↔ q1 = 0) := hid (by rw [List.drop_eq_nil_iff, HM.out]; have := hjm.out; omega)
                      have k1 := HX14.out.c3
                      have k2 := HX14.out.f
                      have k3 : w14.drew.cell? ⟨g7, 3, none⟩ = some (.slice none 0 0) := HX14.out.c3
                      have k4 : ∀ j, w14.drew.frozen? ⟨g7, j, none⟩ = false := HX14.out.f
                      clear hdn hown hdr hdg hb14 C8 U2 HF1 HRD HDRP HU8 e0 s3
                      go_wp2_with fail
                      go_region_held3 (fun _ => True) (first | exact trivial) (fail)
                      clear k1 k2 k3 k4 UA
                      obtain ⟨w15, hw15⟩ : ∃ w15, (w14.setCell ⟨g7, 3, none⟩ (.slice da dn dc)).drew = w15 := ⟨_, rfl⟩
                      have HDB : Hid (Bx4 w15 g7 (.int .i64 xk) (.int .i64 av) (.int .i64 bv) (.slice da dn dc)) := hid (by rw [← hw15]; exact (HX14.out.set3 _).ext (Below.refl _ _).drew)
                      have HMU : Hid (Mut (fun b => b = g7) w14 w15) := hid (by rw [← hw15]; exact (mut1 (w := w14) (s := g7) (i := 3) (v := .slice da dn dc)).trans (Mut.of_below (Below.refl _ _).drew))
                      have HDR : Hid (ByteRow w15 da bs) := hid (HDR14.out.mutT HMU.out fun b off e hne => (HDG.out b off e).2.1)
                      have HBQ : Hid (Below w3.heap.size w3 w15) := hid (HBQ14.out.trans (HMU.out.below HBQ14.out.size fun k e => e ▸ HNE.out.2.2.2.1))
                      have HDG : Hid (∀ b off, da = some ⟨b, off, none⟩ → w.heap.size < b ∧ b < w15.heap.size) := hid fun b off e => ⟨(HDG.out b off e).1, by have := (HDG.out b off e).2.2; have := HMU.out.size; omega⟩
                      rw [hw15]
                      clear hw15 HMU HDR14 HX14 HBQ14
                      have HST : Hid (StepR w15 da ⟨xk, av, bv, bs⟩) := hid ⟨HXK.out, ⟨HBA.out.1, HBA.out.2, HBB.out.1, HBB.out.2, HD0.out⟩, HDR.out⟩
                      have HX0 := hid (HX3.out.ext HBQ.out)
                      have HB0 := hid (HB3.out.trans (HBQ.out.mono HB3.out.size))
                      have C9 := hid (line_any (c := dc) HST.out HDN.out HDL.out (HE.out.ext HB0.out).tab)
                      have y0 := HDB.out.c0
                      have y1 := HDB.out.c1
                      have y2 := HDB.out.c2
                      have y3 := HDB.out.c3
                      go_wp2_with fail
                      refine C9.out.mono ?_
                      rintro e w12 ⟨rfl, hb12⟩
                      have y0 := cell_toB y0 hb12
                      have y1 := cell_toB y1 hb12
                      have y2 := cell_toB y2 hb12
                      have y3 := cell_toB y3 hb12
                      have HX12 := hid (HX0.out.ext hb12)
                      have HB12 := hid (HB0.out.trans (hb12.mono HB0.out.size))
                      have HDR12 := hid (HDR.out.ext hb12)
                      have HSZ12 := hid hb12.size
                      clear hb12 C9 HX0 HB0 HDB HST HD0 HDR
                      rcases hlp : lineP ⟨xk, av, bv, bs⟩ with _ | t
                      · have HRN : Hid (r = none) := hid (by rw [HF2.out]; unfold endP; rw [hlp, if_neg (by simp)])
                        unfold lineV
                        clear hlp y0 y1 y2 y3
                        have z0 := HX12.out.c0
                        have z1 := HX12.out.c1
                        have z2 := HX12.out.c2
                        have z3 := HX12.out.c3
                        have zf := HX12.out.f
                        go_wp2_with fail
                        refine bodyPost_ret (v := .tuple #[.agg ([.int .i64 0, .int .i64 0, .int .i64 0, .slice none 0 0] : List Value).toArray, .bool false]) (results_cell_tmp (p := 2) (q := 3) (ty := 62) rfl _ _ w.heap.size [.int .i64 0, .int .i64 0, .int .i64 0, .slice none 0 0] _ rfl (HX12.out.all _ _ _ _).range Tryz.underlying62 rfl (infoStepL _ _ _ _)) rfl ⟨by rw [HRN.out]; rfl, below_all HB12.out (Nat.le_refl _) _ _ _ _⟩
                      · unfold lineV
                        by_cases hq0 : q1 = 0
                        · have acat := run_cat s [10] (by have := HS.out; omega) (by simp)
                          by_cases heq : t = s ++ [10]
                          · have u1 : (t != s ++ [10]) = false := by simp [heq]
                            have u2 : (t == s ++ [10]) = true := by simp [heq]
                            have HRS : Hid (r = some ⟨xk, av, bv, bs⟩) := hid (by rw [HF2.out]; unfold endP; rw [hlp, heq, if_pos ⟨rfl, HLQ.out.2 hq0⟩])
                            subst hq0
                            have z0 := HX12.out.c0
                            have z1 := HX12.out.c1
                            have z2 := HX12.out.c2
                            have z3 := HX12.out.c3
                            have zf := HX12.out.f
                            clear heq hlp
                            go_wp2_with fail
                            refine bodyPost_ret (v := .tuple #[.agg ([.int .i64 xk, .int .i64 av, .int .i64 bv, .slice da dn dc] : List Value).toArray, .bool true]) (results_cell_tmp (p := 2) (q := 3) (ty := 62) rfl _ _ w.heap.size [.int .i64 xk, .int .i64 av, .int .i64 bv, .slice da dn dc] _ rfl (HX12.out.all _ _ _ _).range Tryz.underlying62 rfl (infoStepL _ _ _ _)) rfl ⟨?_, below_all HB12.out (Nat.le_refl _) _ _ _ _⟩
                            rw [HRS.out]
                            refine ⟨da, dc, by rw [HDN.out], ?_, fun b off e => by have := HDG.out b off e; have := HSZ12.out; simp only [World.size_setCell]; omega⟩
                            exact HDR12.out.mutT (mut_all _ _ _ _ _ _) fun b off e hne h => by have := HDG.out b off e; omega
                          · have u1 : (t != s ++ [10]) = true := by simpa using heq
                            have u2 : (t == s ++ [10]) = false := by simpa using heq
                            have HRN : Hid (r = none) := hid (by rw [HF2.out]; unfold endP; rw [hlp, if_neg (fun h => heq (Option.some.inj h.1))])
                            subst hq0
                            clear heq hlp y0 y1 y2 y3
                            have z0 := HX12.out.c0
                            have z1 := HX12.out.c1
                            have z2 := HX12.out.c2
                            have z3 := HX12.out.c3
                            have zf := HX12.out.f
                            go_wp2_with fail
                            refine bodyPost_ret (v := .tuple #[.agg ([.int .i64 0, .int .i64 0, .int .i64 0, .slice none 0 0] : List Value).toArray, .bool false]) (results_cell_tmp (p := 2) (q := 3) (ty := 62) rfl _ _ w.heap.size [.int .i64 0, .int .i64 0, .int .i64 0, .slice none 0 0] _ rfl (HX12.out.all _ _ _ _).range Tryz.underlying62 rfl (infoStepL _ _ _ _)) rfl ⟨by rw [HRN.out]; rfl, below_all HB12.out (Nat.le_refl _) _ _ _ _⟩
                        · have HRN : Hid (r = none) := hid (by rw [HF2.out]; unfold endP; rw [if_neg (fun h => hq0 (HLQ.out.1 h.2))])
                          have gq : decide (0 < q1) = true := by simp; omega
                          have gq2 : decide ((0 : Int) < (q1 : Nat)) = true := by simp; omega
                          clear hlp y0 y1 y2 y3 hq0
                          have z0 := HX12.out.c0
                          have z1 := HX12.out.c1
                          have z2 := HX12.out.c2
                          have z3 := HX12.out.c3
                          have zf := HX12.out.f
                          go_wp2_with fail
                          refine bodyPost_ret (v := .tuple #[.agg ([.int .i64 0, .int .i64 0, .int .i64 0, .slice none 0 0] : List Value).toArray, .bool false]) (results_cell_tmp (p := 2) (q := 3) (ty := 62) rfl _ _ w.heap.size [.int .i64 0, .int .i64 0, .int .i64 0, .slice none 0 0] _ rfl (HX12.out.all _ _ _ _).range Tryz.underlying62 rfl (infoStepL _ _ _ _)) rfl ⟨by rw [HRN.out]; rfl, below_all HB12.out (Nat.le_refl _) _ _ _ _⟩
      · have g : (@BEq.beq (List UInt8) List.instBEq word w0) = false := by simp [hw]
        simp only [g, Bool.not_false]
        have HNO : Hid (∀ (j : Nat) (x : Shape), j < k + 1 → shapesP[j]? = some x → x.word ≠ w0) := hid fun j x hj hx => by
          by_cases hjk : j < k
          · exact hno.out j x hjk hx
          · obtain rfl : j = k := by omega
            rw [HXX.out] at hx
            have := Option.some.inj hx
            subst this
            exact hw
        have HB9 := hid (HB4.out.trans (hb9.mono HB4.out.size))
        clear hw hb9
        go_wp2_with fail
        go_roundw
        case rel => exact ⟨k + 1, by omega, by go_num, HNO, HB9⟩
        case measure => simp [intOf]; omega
    · have HRN : Hid (r = none) := hid (by
        rw [HR.out, shapeW_none fun j x hj => hno.out j x (by have := (List.getElem?_eq_some_iff.1 hj).1; have h13 : shapesP.length = 13 := rfl; omega) hj])
      have HX0 := hid (HX3.out.ext hbw.out)
      have HB0 := hid (HB3.out.trans (hbw.out.mono HB3.out.size))
      have z0 := HX0.out.c0
      have z1 := HX0.out.c1
      have z2 := HX0.out.c2
      have z3 := HX0.out.c3
      have zf := HX0.out.f
      go_wp2_with fail
      refine bodyPost_ret (v := .tuple #[.agg ([.int .i64 0, .int .i64 0, .int .i64 0, .slice none 0 0] : List Value).toArray, .bool false]) (results_cell_tmp (p := 2) (q := 3) (ty := 62) rfl _ _ w.heap.size [.int .i64 0, .int .i64 0, .int .i64 0, .slice none 0 0] _ rfl (HX0.out.all _ _ _ _).range Tryz.underlying62 rfl (infoStepL _ _ _ _)) rfl ⟨by rw [HRN.out]; rfl, below_all HB0.out (Nat.le_refl _) _ _ _ _⟩
end Go.Proofs.YtehagnbphamjhaaGreatDoor

