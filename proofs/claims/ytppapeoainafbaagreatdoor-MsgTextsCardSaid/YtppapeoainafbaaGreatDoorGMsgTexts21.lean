/- Parts of the proof: X82 X83 U5. -/
import Derived.Test.YtppapeoainafbaaGreatDoorU4
namespace Go.Proofs.YtppapeoainafbaaGreatDoor
open Go.RowKit
/-! ### Ahead; the reference's CheckBeat and SameBeat; msg.checkBeat -/
theorem ext_of {P : Program} {f : FuncId} {args : Array Value} {w0 : World} {U : ExtW w0} {v v' : Value} (h : Calls P f args U.W fun e w' => e = .returned v ∧ Below U.W.heap.size U.W w') (hv : v = v') :
    Calls P f args U.W fun e w' => e = .returned v' ∧ ∃ U' : ExtW w0, w' = U'.W := by
  subst hv
  refine h.mono ?_
  rintro e w' ⟨rfl, hb⟩
  exact ⟨rfl, ⟨_, U.h.trans (hb.mono U.h.size)⟩, rfl⟩
theorem ret_u64 {a b : Int} (h : a = b) : Ending.returned (.int .u64 a) = .returned (.int .u64 b) := by rw [h]
theorem u64_or32 (x y : Int) (hy₀ : 0 ≤ y) (hy : y < 4294967296) (hx₀ : 0 ≤ x) (hx : x % 4294967296 = 0) (hx₁ : x < 18446744073709551616) : bits .or .u64 x y = x + y :=
  bits_join .u64 64 (by decide) wraps_u64 32 x y hx₀ hx hx₁ hy₀ hy (by omega)
def numOf (p : Pid) : Int := p.1 * 4294967296 + p.2
set_option maxHeartbeats 400000 in
theorem number_any (x y : Int) (w : World) (h : okP (x, y)) : Calls Tryz.prog 114 #[.agg #[.int .u16 x, .int .u32 y]] w fun e w' => e = .returned (.int .u64 (numOf (x, y))) ∧ Below w.heap.size w w' := by
  obtain ⟨hx, hx2, hy, hy2⟩ := h
  simp only at hx hx2 hy hy2
  have hB : Below w.heap.size w (w.alloc (.cells #[.int .u16 x, .int .u32 y] 25)) := (Below.refl _ _).alloc (Nat.le_refl _) _
  go_enter Tryz.func114, Tryz.ntmps114
  go_wp2
  go_ret
  exact ⟨ret_u64 (u64_or32 _ _ hy hy2 (by omega) (by omega) (by omega)), hB⟩

def ahead (p q : Pid) : Bool := decide (numOf p < numOf q)
set_option maxHeartbeats 400000 in
theorem aheadO_any (a b c d : Int) (w : World) (h1 : okP (a, b)) (h2 : okP (c, d)) : Calls Tryz.prog 80 #[.agg #[.int .u16 a, .int .u32 b], .agg #[.int .u16 c, .int .u32 d]] w fun e w' => e = .returned (.bool (ahead (a, b) (c, d))) ∧ Below w.heap.size w w' := by
  have hB : Below w.heap.size w ((w.alloc (.cells #[.int .u16 a, .int .u32 b] 25)).alloc (.cells #[.int .u16 c, .int .u32 d] 25)) := ((Below.refl _ _).alloc (Nat.le_refl _) _).alloc (by simp) _
  have hz : w.heap.size ≤ ((w.alloc (.cells #[.int .u16 a, .int .u32 b] 25)).alloc (.cells #[.int .u16 c, .int .u32 d] 25)).heap.size := by simp; omega
  have k0 : ((w.alloc (.cells #[.int .u16 a, .int .u32 b] 25)).alloc (.cells #[.int .u16 c, .int .u32 d] 25)).cell? ⟨w.heap.size, 0, none⟩ = some (.int .u16 a) := by simp
  have k1 : ((w.alloc (.cells #[.int .u16 a, .int .u32 b] 25)).alloc (.cells #[.int .u16 c, .int .u32 d] 25)).cell? ⟨w.heap.size, 1, none⟩ = some (.int .u32 b) := by simp
  have k2 : ((w.alloc (.cells #[.int .u16 a, .int .u32 b] 25)).alloc (.cells #[.int .u16 c, .int .u32 d] 25)).cell? ⟨w.heap.size + 1, 0, none⟩ = some (.int .u16 c) := by simp
  have k3 : ((w.alloc (.cells #[.int .u16 a, .int .u32 b] 25)).alloc (.cells #[.int .u16 c, .int .u32 d] 25)).cell? ⟨w.heap.size + 1, 1, none⟩ = some (.int .u32 d) := by simp
  go_enter Tryz.func80, Tryz.ntmps80
  go_wp2
  revert hB hz k0 k1 k2 k3
  generalize (w.alloc (.cells #[.int .u16 a, .int .u32 b] 25)).alloc (.cells #[.int .u16 c, .int .u32 d] 25) = wr
  intro hB hz k0 k1 k2 k3
  have f0 := cell_extw k0
  have f1 := cell_extw k1
  have f2 := cell_extw k2
  have f3 := cell_extw k3
  clear k0 k1 k2 k3
  have n1 : ∀ U : ExtW wr, Calls Tryz.prog 114 #[.agg #[.int .u16 a, .int .u32 b]] U.W fun e w' => e = .returned (.int .u64 (numOf (a, b))) ∧ ∃ U' : ExtW wr, w' = U'.W := fun U => ext_of (number_any a b U.W h1) rfl
  have n2 : ∀ U : ExtW wr, Calls Tryz.prog 114 #[.agg #[.int .u16 c, .int .u32 d]] U.W fun e w' => e = .returned (.int .u64 (numOf (c, d))) ∧ ∃ U' : ExtW wr, w' = U'.W := fun U => ext_of (number_any c d U.W h2) rfl
  have hs : ahead (a, b) (c, d) = decide (numOf (a, b) < numOf (c, d)) := rfl
  have HS := hid hs
  clear hs
  revert n1 n2 HS
  generalize numOf (a, b) = A
  generalize numOf (c, d) = B
  intro n1 n2 HS
  refine wp_region_ext (w := wr) (Below.refl _ _) (by kernel_rfl) (by kernel_rfl) ?_
  repeat (go_big_quiet_step (first | (go_at_call_of 114 c; exact n2 _) | exact n1 _))
  refine wpQuiet_nil ?_
  rintro w9 ⟨⟨_, hb9⟩, rfl⟩
  go_wp2
  go_ret
  exact ⟨ret_bool HS.out.symm, hB.trans (hb9.mono hz)⟩

theorem aheadP_num {p q : Pid} (h1 : okP p) (h2 : okP q) : ahead p q = aheadP p q := by
  obtain ⟨x1, x2, x3, x4⟩ := h1
  obtain ⟨y1, y2, y3, y4⟩ := h2
  unfold ahead aheadP numOf
  congr 1
  simp only [eq_iff_iff]
  omega
theorem aheadP_is {a b c d : Int} {w : World} {r : Bool} (h : Hid (aheadP (a, b) (c, d) = r)) (h1 : okP (a, b)) (h2 : okP (c, d)) : Calls Tryz.prog 80 #[.agg #[.int .u16 a, .int .u32 b], .agg #[.int .u16 c, .int .u32 d]] w fun e w' => e = .returned (.bool r) ∧ Below w.heap.size w w' :=
  (aheadO_any a b c d w h1 h2).mono fun _ _ ⟨e1, e2⟩ => ⟨by rw [e1, aheadP_num h1 h2, h.out], e2⟩
set_option maxHeartbeats 400000 in
theorem aheadPR_is {a b c d : Int} {w : World} {r : Bool} (h : Hid (aheadP (a, b) (c, d) = r)) : Calls Tryz.prog 81 #[.agg #[.int .u16 a, .int .u32 b], .agg #[.int .u16 c, .int .u32 d]] w fun e w' => e = .returned (.bool r) ∧ Below w.heap.size w w' := by
  have hB : Below w.heap.size w ((w.alloc (.cells #[.int .u16 a, .int .u32 b] 25)).alloc (.cells #[.int .u16 c, .int .u32 d] 25)) := ((Below.refl _ _).alloc (Nat.le_refl _) _).alloc (by simp) _
  by_cases hac : a = c
  · subst hac
    have e1 : (a != a) = false := by simp
    have e2 : Hid (decide (b < d) = r) := hid (by rw [← h.out]; unfold aheadP; simp)
    go_enter Tryz.func81, Tryz.ntmps81
    go_wp2
    go_ret
    exact ⟨ret_bool e2.out, hB⟩
  · have e1 : (a != c) = true := by simpa using hac
    have e2 : Hid (decide (a < c) = r) := hid (by rw [← h.out]; unfold aheadP; simp [hac])
    clear hac
    go_enter Tryz.func81, Tryz.ntmps81
    go_wp2
    go_ret
    exact ⟨ret_bool e2.out, hB⟩
/-- those who are suspected, from a place on -/
def susAt (l : List Pid) (k : Nat) : Bool := susB (prevOf l k) (l.drop k)
def prevOk (pr : Option Pid) (p : Pid) : Bool := match pr with | none => true | some q => aheadP q p
theorem susAt_step {l : List Pid} {k : Nat} (h : k < l.length) {x y : Int} (hx : (x, y) = l[k]) : susAt l k = ((mayP (x, y) && prevOk (prevOf l k) (x, y)) && susAt l (k + 1)) := by
  unfold susAt
  rw [List.drop_eq_getElem_cons h, ← hx, prevOf_succ h hx]
  rfl
theorem susAt_end {l : List Pid} {k : Nat} (h : l.length ≤ k) : susAt l k = true := by
  unfold susAt; rw [List.drop_eq_nil_of_le h]; rfl
structure BeatBox (w : World) (g : Nat) (x : BeatD) (a : Option Addr) (n c : Nat) : Prop where
  c0 : w.cell? ⟨g, 0, none⟩ = some (.int .u64 x.v)
  c1 : w.cell? ⟨g, 1, none⟩ = some (.int .u64 x.ap)
  c2 : w.cell? ⟨g, 2, none⟩ = some (.int .u64 x.be)
  c3 : w.cell? ⟨g, 3, none⟩ = some (.int .u64 x.st)
  c4 : w.cell? ⟨g, 4, none⟩ = some (.slice a n c)
theorem BeatBox.lt {w : World} {g : Nat} {x : BeatD} {a : Option Addr} {n c : Nat} (h : BeatBox w g x a n c) : g < w.heap.size := World.block_lt_of_cell? w _ h.c0
theorem BeatBox.ext {w w' : World} {g : Nat} {x : BeatD} {a : Option Addr} {n c B : Nat} (h : BeatBox w g x a n c) (hb : Below B w w') (hB : g < B) : BeatBox w' g x a n c :=
  ⟨(hb.cell (by exact hB)).trans h.c0, (hb.cell (by exact hB)).trans h.c1, (hb.cell (by exact hB)).trans h.c2, (hb.cell (by exact hB)).trans h.c3, (hb.cell (by exact hB)).trans h.c4⟩
theorem BeatBox.made {x : BeatD} {a : Option Addr} {n c : Nat} (w : World) : BeatBox (w.alloc (.cells #[.int .u64 x.v, .int .u64 x.ap, .int .u64 x.be, .int .u64 x.st, .slice a n c] 39)) w.heap.size x a n c := ⟨by simp, by simp, by simp, by simp, by simp⟩
theorem beatChk_no {x : BeatD} (h : ¬ (x.v ≤ 4611686018427387904 ∧ x.ap ≤ 4611686018427387904 ∧ x.be ≤ 4611686018427387904 ∧ x.st ≤ 4611686018427387904 ∧ x.sus.length ≤ 24)) : beatChk x = false := by
  cases h' : beatChk x
  · rfl
  · unfold beatChk at h'
    simp only [Bool.and_eq_true, decide_eq_true_eq] at h'
    exact absurd ⟨h'.1, h'.2.1, h'.2.2.1, h'.2.2.2.1, h'.2.2.2.2.1⟩ h
theorem beatChk_yes {x : BeatD} (h : x.v ≤ 4611686018427387904 ∧ x.ap ≤ 4611686018427387904 ∧ x.be ≤ 4611686018427387904 ∧ x.st ≤ 4611686018427387904 ∧ x.sus.length ≤ 24) : beatChk x = susAt x.sus 0 := by
  obtain ⟨h1, h2, h3, h4, h5⟩ := h
  unfold beatChk susAt
  rw [decide_eq_true h1, decide_eq_true h2, decide_eq_true h3, decide_eq_true h4, decide_eq_true h5]; rfl
set_option maxRecDepth 100000 in
set_option maxHeartbeats 6400000 in
theorem checkBeatR_any {x : BeatD} {a : Option Addr} {c n : Nat} {w : World} (hn : Hid (x.sus.length = n)) (hl : n ≤ 70368744177664) (hok : ∀ p ∈ x.sus, okP p) (hrow : PidRow w a x.sus) :
    Calls Tryz.prog 41 #[.agg #[.int .u64 x.v, .int .u64 x.ap, .int .u64 x.be, .int .u64 x.st, .slice a n c]] w fun e w' => e = .returned (.bool (beatChk x)) ∧ Below w.heap.size w w' := by
  obtain ⟨W1, hW1⟩ : ∃ W1, w.alloc (.cells #[.int .u64 x.v, .int .u64 x.ap, .int .u64 x.be, .int .u64 x.st, .slice a n c] 39) = W1 := ⟨_, rfl⟩
  have hB1 : Below w.heap.size w W1 := by rw [← hW1]; exact (Below.refl _ _).alloc (Nat.le_refl _) _
  have hbx : BeatBox W1 w.heap.size x a n c := by rw [← hW1]; exact BeatBox.made w
  have hrow1 := hrow.ext hB1
  have HB1 := hid hB1
  have HOK := hid hok
  have HROW := hid hrow1
  have HBX := hid hbx
  have hlt0 := hbx.lt
  obtain ⟨c0, c1, c2, c3, c4⟩ := hbx
  clear hB1 hrow hrow1 hok
  by_cases b0 : 4611686018427387904 < x.v
  · have HNO : Hid (beatChk x = false) := hid (beatChk_no (by omega))
    have s0 : decide (4611686018427387904 < x.v) = true := by simpa using b0
    have u0 : decide ((4611686018427387904 : Int) < (x.v : Int)) = true := by simp; omega
    have y0 : decide ((x.v : Int) > 4611686018427387904) = true := by simp; omega
    clear b0
    go_enter Tryz.func41, Tryz.ntmps41
    go_wp2
    go_ret
    exact ⟨by rw [HNO.out]; rfl, HB1.out⟩
  have s0 : decide (4611686018427387904 < x.v) = false := by simp; omega
  have u0 : decide ((4611686018427387904 : Int) < (x.v : Int)) = false := by simp; omega
  have y0 : decide ((x.v : Int) > 4611686018427387904) = false := by simp; omega
  by_cases b1 : 4611686018427387904 < x.ap
  · have HNO : Hid (beatChk x = false) := hid (beatChk_no (by omega))
    have s1 : decide (4611686018427387904 < x.ap) = true := by simpa using b1
    have u1 : decide ((4611686018427387904 : Int) < (x.ap : Int)) = true := by simp; omega
    have y1 : decide ((x.ap : Int) > 4611686018427387904) = true := by simp; omega
    clear b1
    go_enter Tryz.func41, Tryz.ntmps41
    go_wp2
    go_ret
    exact ⟨by rw [HNO.out]; rfl, HB1.out⟩
  have s1 : decide (4611686018427387904 < x.ap) = false := by simp; omega
  have u1 : decide ((4611686018427387904 : Int) < (x.ap : Int)) = false := by simp; omega
  have y1 : decide ((x.ap : Int) > 4611686018427387904) = false := by simp; omega
  by_cases b2 : 4611686018427387904 < x.be
  · have HNO : Hid (beatChk x = false) := hid (beatChk_no (by omega))
    have s2 : decide (4611686018427387904 < x.be) = true := by simpa using b2
    have u2 : decide ((4611686018427387904 : Int) < (x.be : Int)) = true := by simp; omega
    have y2 : decide ((x.be : Int) > 4611686018427387904) = true := by simp; omega
    clear b2
    go_enter Tryz.func41, Tryz.ntmps41
    go_wp2
    go_ret
    exact ⟨by rw [HNO.out]; rfl, HB1.out⟩
  have s2 : decide (4611686018427387904 < x.be) = false := by simp; omega
  have u2 : decide ((4611686018427387904 : Int) < (x.be : Int)) = false := by simp; omega
  have y2 : decide ((x.be : Int) > 4611686018427387904) = false := by simp; omega
  by_cases b3 : 4611686018427387904 < x.st
  · have HNO : Hid (beatChk x = false) := hid (beatChk_no (by omega))
    have s3 : decide (4611686018427387904 < x.st) = true := by simpa using b3
    have u3 : decide ((4611686018427387904 : Int) < (x.st : Int)) = true := by simp; omega
    have y3 : decide ((x.st : Int) > 4611686018427387904) = true := by simp; omega
    clear b3
    go_enter Tryz.func41, Tryz.ntmps41
    go_wp2
    go_ret
    exact ⟨by rw [HNO.out]; rfl, HB1.out⟩
  have s3 : decide (4611686018427387904 < x.st) = false := by simp; omega
  have u3 : decide ((4611686018427387904 : Int) < (x.st : Int)) = false := by simp; omega
  have y3 : decide ((x.st : Int) > 4611686018427387904) = false := by simp; omega
  by_cases b4 : 24 < n
  · have HNO : Hid (beatChk x = false) := hid (beatChk_no (by have := hn.out; omega))
    have s4 : decide (24 < n) = true := by simpa using b4
    have u4 : decide ((24 : Int) < (n : Int)) = true := by simp; omega
    have y4 : decide ((n : Int) > 24) = true := by simp; omega
    clear b0 b1 b2 b3 b4
    go_enter Tryz.func41, Tryz.ntmps41
    go_wp2
    go_ret
    exact ⟨by rw [HNO.out]; rfl, HB1.out⟩
  have s4 : decide (24 < n) = false := by simp; omega
  have u4 : decide ((24 : Int) < (n : Int)) = false := by simp; omega
  have y4 : decide ((n : Int) > 24) = false := by simp; omega
  have HYES : Hid (beatChk x = susAt x.sus 0) := hid (beatChk_yes (by have := hn.out; omega))
  have hn24 : n ≤ 24 := by omega
  clear b0 b1 b2 b3 b4
  go_enter Tryz.func41, Tryz.ntmps41
  go_wp2
  go_loopw [2, 3] (fun rs i wr => rs = .bool false ∧ ∃ k : Nat, k ≤ n ∧ i = .int .i64 k ∧ Hid (beatChk x = susAt x.sus k) ∧ Below W1.heap.size W1 wr) (fun _ i _ => n - (intOf i).toNat)
  case atStart => exact ⟨rfl, 0, Nat.zero_le _, rfl, HYES, Below.refl _ _⟩
  case round =>
    obtain ⟨rfl, k, hk, rfl, ha, hb⟩ := hrel
    obtain ⟨d0, d1, d2, d3, d4⟩ := HBX.out.ext hb HBX.out.lt
    have x4 := cell_extw HBX.out.c4
    by_cases hlt : k < n
    · have hlt' : k < x.sus.length := by rw [hn.out]; exact hlt
      obtain ⟨b, off, i, j, rfl, hx, -, -⟩ := HROW.out.at hb rfl hlt'
      obtain ⟨hd0, hd1⟩ := HROW.out.extw hlt' hx
      have hst := susAt_step hlt' hx
      have hij : okP (i, j) := by rw [hx]; exact HOK.out _ (List.getElem_mem _)
      obtain ⟨m, hm⟩ : ∃ m, mayP (i, j) = m := ⟨_, rfl⟩
      rw [hm] at hst
      have MY : ∀ U : ExtW W1, Calls Tryz.prog 61 #[.agg #[.int .u16 i, .int .u32 j]] U.W fun e w' => e = .returned (.bool m) ∧ ∃ U' : ExtW W1, w' = U'.W := fun U => ext_of (mayR_is (w := U.W) (hid (show mayR (i, j) = m from hm))) rfl
      have HST := hid hst
      have HX := hid hx
      have HIJ := hid hij
      clear hst hx hm hij d0 d1 d2 d3 c0 c1 c2 c3
      cases m
      case false =>
        go_wp2
        refine wp_region_ext hb (by kernel_rfl) (by kernel_rfl) ?_
        repeat (go_big_quiet_step (with_reducible exact MY _))
        refine wpQuiet_nil ?_
        rintro _ ⟨⟨w9, hb9⟩, rfl⟩
        go_wp2
        go_ret
        exact ⟨by rw [ha.out, HST.out]; rfl, HB1.out.trans (hb9.mono HB1.out.size)⟩
      case true =>
      by_cases hk0 : k = 0
      · have hk1 : decide (0 < (k : Int)) = false := by simp; omega
        have hk2 : decide (0 < k) = false := by simp; omega
        have hk3 : decide ((k : Int) > 0) = false := by simp; omega
        have HP : Hid (prevOk (prevOf x.sus k) (i, j) = true) := hid (by rw [hk0]; rfl)
        clear hk0
        go_wp2
        refine wp_region_ext hb (by kernel_rfl) (by kernel_rfl) ?_
        repeat (go_big_quiet_step (with_reducible exact MY _))
        refine wpQuiet_nil ?_
        rintro _ ⟨⟨w9, hb9⟩, rfl⟩
        go_wp2
        go_roundw
        case rel => exact ⟨rfl, k + 1, by omega, by go_num, hid (ha.out.trans (by rw [HST.out, HP.out]; rfl)), hb9⟩
        case measure => simp [intOf]; omega
      · have hk1 : decide (0 < (k : Int)) = true := by simp; omega
        have hk2 : decide (0 < k) = true := by simp; omega
        have hk3 : decide ((k : Int) > 0) = true := by simp; omega
        have hkl : k - 1 < x.sus.length := by omega
        have hkc : ((k - 1 : Nat) : Int) = (k : Int) - 1 := by omega
        obtain ⟨b2, off2, i2, j2, e2, hx2, -, -⟩ := HROW.out.at hb rfl hkl
        cases e2
        obtain ⟨hg0, hg1⟩ := HROW.out.extw hkl hx2
        have hpr : prevOf x.sus k = some (i2, j2) := by simp [prevOf, hk0, hkl, hx2]
        obtain ⟨q, hq⟩ : ∃ q, aheadP (i2, j2) (i, j) = q := ⟨_, rfl⟩
        have AH : ∀ U : ExtW W1, Calls Tryz.prog 81 #[.agg #[.int .u16 i2, .int .u32 j2], .agg #[.int .u16 i, .int .u32 j]] U.W fun e w' => e = .returned (.bool q) ∧ ∃ U' : ExtW W1, w' = U'.W := fun U => ext_of (aheadPR_is (w := U.W) (hid hq)) rfl
        have HP : Hid (prevOk (prevOf x.sus k) (i, j) = q) := hid (by rw [hpr]; exact hq)
        have HKC := hid hkc
        clear hx2 hpr hq hkc
        cases q
        case false =>
          go_wp2
          refine wp_region_ext hb (by kernel_rfl) (by kernel_rfl) ?_
          repeat (go_big_quiet_step (first | (with_reducible exact AH _) | (with_reducible exact MY _)))
          refine wpQuiet_nil ?_
          rintro _ ⟨⟨w9, hb9⟩, rfl⟩
          go_wp2
          go_ret
          exact ⟨by rw [ha.out, HST.out, HP.out]; rfl, HB1.out.trans (hb9.mono HB1.out.size)⟩
        case true =>
          go_wp2
          refine wp_region_ext hb (by kernel_rfl) (by kernel_rfl) ?_
          repeat (go_big_quiet_step (first | (with_reducible exact AH _) | (with_reducible exact MY _)))
          refine wpQuiet_nil ?_
          rintro _ ⟨⟨w9, hb9⟩, rfl⟩
          go_wp2
          go_roundw
          case rel => exact ⟨rfl, k + 1, by omega, by go_num, hid (ha.out.trans (by rw [HST.out, HP.out]; rfl)), hb9⟩
          case measure => simp [intOf]; omega
    · go_wp2
      go_ret
      exact ⟨by rw [ha.out, susAt_end (by rw [hn.out]; omega)]; rfl, HB1.out.trans (hb.mono HB1.out.size)⟩
end Go.Proofs.YtppapeoainafbaaGreatDoor

namespace Go.Proofs.YtppapeoainafbaaGreatDoor
open Go.RowKit
/-! ### msg.checkBeat -/
theorem max2_run (a b : Nat) (W : World) : (Builtin.max2 (.int .u64 a) (.int .u64 b)).run Tryz.prog W = .ok (.int .u64 (max a b : Nat)) W := by
  have e : (if (b : Int) > (a : Int) then (b : Int) else (a : Int)) = ((max a b : Nat) : Int) := by
    by_cases h : b > a
    · rw [if_pos (by omega)]; omega
    · rw [if_neg (by omega)]; omega
  show ((pure (.int .u64 (if (b : Int) > (a : Int) then (b : Int) else (a : Int))) : Sem Value)).run Tryz.prog W = _
  rw [e]; simp
theorem max4_run {a b c d m : Nat} (h : Hid (max (max (max a b) c) d = m)) (W : World) : (Builtin.max_ #[26, 26, 26, 26] 26 #[.int .u64 a, .int .u64 b, .int .u64 c, .int .u64 d]).run Tryz.prog W = .ok (.int .u64 m) W := by
  rw [← h.out]
  simp only [Builtin.max_, List.foldlM]
  simp [max2_run, Result.andThen]
def chkN (b : Bool) : Int := if b then 0 else 1
set_option maxRecDepth 100000 in
set_option maxHeartbeats 6400000 in
theorem checkBeat_any {x : BeatD} {a : Option Addr} {c n : Nat} {w : World} (hn : Hid (x.sus.length = n)) (hl : n ≤ 70368744177664) (hok : ∀ p ∈ x.sus, okP p) (hrow : PidRow w a x.sus) :
    Calls Tryz.prog 40 #[.agg #[.int .u64 x.v, .int .u64 x.ap, .int .u64 x.be, .int .u64 x.st, .slice a n c]] w fun e w' => e = .returned (.int .i64 (chkN (beatChk x))) ∧ Below w.heap.size w w' := by
  obtain ⟨W1, hW1⟩ : ∃ W1, w.alloc (.cells #[.int .u64 x.v, .int .u64 x.ap, .int .u64 x.be, .int .u64 x.st, .slice a n c] 39) = W1 := ⟨_, rfl⟩
  have hB1 : Below w.heap.size w W1 := by rw [← hW1]; exact (Below.refl _ _).alloc (Nat.le_refl _) _
  have hbx : BeatBox W1 w.heap.size x a n c := by rw [← hW1]; exact BeatBox.made w
  have hrow1 := hrow.ext hB1
  have HB1 := hid hB1
  have HOK := hid hok
  have HROW := hid hrow1
  have HBX := hid hbx
  have hlt0 := hbx.lt
  obtain ⟨c0, c1, c2, c3, c4⟩ := hbx
  clear hB1 hrow hrow1 hok
  obtain ⟨m, hm⟩ : ∃ m, max (max (max x.v x.ap) x.be) x.st = m := ⟨_, rfl⟩
  have MX := fun W => max4_run (hid hm) W
  by_cases b0 : 4611686018427387904 < m
  · have HNO : Hid (beatChk x = false) := hid (beatChk_no (by omega))
    have s0 : decide (4611686018427387904 < m) = true := by simpa using b0
    have u0 : decide ((4611686018427387904 : Int) < (m : Int)) = true := by simp; omega
    have y0 : decide ((m : Int) > 4611686018427387904) = true := by simp; omega
    clear b0 hm
    go_enter Tryz.func40, Tryz.ntmps40
    go_wp2
    go_ret
    exact ⟨by rw [HNO.out]; rfl, HB1.out⟩
  have s0 : decide (4611686018427387904 < m) = false := by simp; omega
  have u0 : decide ((4611686018427387904 : Int) < (m : Int)) = false := by simp; omega
  have y0 : decide ((m : Int) > 4611686018427387904) = false := by simp; omega
  by_cases b4 : 24 < n
  · have HNO : Hid (beatChk x = false) := hid (beatChk_no (by have := hn.out; omega))
    have s4 : decide (24 < n) = true := by simpa using b4
    have u4 : decide ((24 : Int) < (n : Int)) = true := by simp; omega
    have y4 : decide ((n : Int) > 24) = true := by simp; omega
    clear b0 b4 hm
    go_enter Tryz.func40, Tryz.ntmps40
    go_wp2
    go_ret
    exact ⟨by rw [HNO.out]; rfl, HB1.out⟩
  have s4 : decide (24 < n) = false := by simp; omega
  have u4 : decide ((24 : Int) < (n : Int)) = false := by simp; omega
  have y4 : decide ((n : Int) > 24) = false := by simp; omega
  have HYES : Hid (beatChk x = susAt x.sus 0) := hid (beatChk_yes (by have := hn.out; omega))
  have hn24 : n ≤ 24 := by omega
  clear b0 b4 hm
  go_enter Tryz.func40, Tryz.ntmps40
  go_wp2
  go_loopw [2, 24] (fun rs i wr => rs = .int .i64 0 ∧ ∃ k : Nat, k ≤ n ∧ i = .int .i64 k ∧ Hid (beatChk x = susAt x.sus k) ∧ Below W1.heap.size W1 wr) (fun _ i _ => n - (intOf i).toNat)
  case atStart => exact ⟨rfl, 0, Nat.zero_le _, rfl, HYES, Below.refl _ _⟩
  case round =>
    obtain ⟨rfl, k, hk, rfl, ha, hb⟩ := hrel
    by_cases hlt : k < n
    · have hlt' : k < x.sus.length := by rw [hn.out]; exact hlt
      obtain ⟨b, off, i, j, rfl, hx, d0, d1⟩ := HROW.out.at hb rfl hlt'
      have hst := susAt_step hlt' hx
      have hij : okP (i, j) := by rw [hx]; exact HOK.out _ (List.getElem_mem _)
      obtain ⟨m1, hm1⟩ : ∃ m, mayP (i, j) = m := ⟨_, rfl⟩
      rw [hm1] at hst
      have HST := hid hst
      have HX := hid hx
      have HIJ := hid hij
      have HM1 := hid hm1
      have hz := hb.size
      clear hst hx hij hm1 c0 c1 c2 c3
      obtain ⟨g, hg⟩ : ∃ g, wr.heap.size = g := ⟨_, rfl⟩
      go_upto_region 6 with fail
      obtain ⟨wq, hwq⟩ : ∃ wq, wr.alloc (.cells #[.int .u16 i, .int .u32 j] 25) = wq := ⟨_, rfl⟩
      have hb1q : Below W1.heap.size W1 wq := by rw [← hwq]; exact hb.alloc hb.size _
      have p0 : wq.cell? ⟨g, 0, none⟩ = some (.int .u16 i) := by rw [← hwq, ← hg]; simp
      have p1 : wq.cell? ⟨g, 1, none⟩ = some (.int .u32 j) := by rw [← hwq, ← hg]; simp
      rw [hwq]
      have hx0 := cell_extw p0
      have hx1 := cell_extw p1
      have x4 := cell_extw (HBX.out.ext hb1q HBX.out.lt).c4
      have hrq := HROW.out.ext hb1q
      have hbq : Below wq.heap.size wq wq := Below.refl _ _
      have MY : ∀ U : ExtW wq, Calls Tryz.prog 76 #[.agg #[.int .u16 i, .int .u32 j]] U.W fun e w' => e = .returned (.bool m1) ∧ ∃ U' : ExtW wq, w' = U'.W := fun U => ext_of (mayP_is (w := U.W) HM1 HIJ.out.2.2.1) rfl
      have HB1Q := hid hb1q
      clear hb1q p0 p1 d0 d1 hwq hg hb c4
      cases m1
      case false =>
        refine wp_region_ext hbq (by kernel_rfl) (by kernel_rfl) ?_
        repeat (go_big_quiet_step (with_reducible exact MY _))
        refine wpQuiet_nil ?_
        rintro _ ⟨⟨w9, hb9⟩, rfl⟩
        go_wp2
        go_ret
        exact ⟨by rw [ha.out, HST.out]; rfl, HB1.out.trans ((HB1Q.out.trans (hb9.mono HB1Q.out.size)).mono HB1.out.size)⟩
      case true =>
      by_cases hk0 : k = 0
      · have hk1 : decide (0 < (k : Int)) = false := by simp; omega
        have hk2 : decide (0 < k) = false := by simp; omega
        have hk3 : decide ((k : Int) > 0) = false := by simp; omega
        have HP : Hid (prevOk (prevOf x.sus k) (i, j) = true) := hid (by rw [hk0]; rfl)
        clear hk0
        refine wp_region_ext hbq (by kernel_rfl) (by kernel_rfl) ?_
        repeat (go_big_quiet_step (with_reducible exact MY _))
        refine wpQuiet_nil ?_
        rintro _ ⟨⟨w9, hb9⟩, rfl⟩
        go_wp2
        go_roundw
        case rel => exact ⟨rfl, k + 1, by omega, by go_num, hid (ha.out.trans (by rw [HST.out, HP.out]; rfl)), HB1Q.out.trans (hb9.mono HB1Q.out.size)⟩
        case measure => simp [intOf]; omega
      · have hk1 : decide (0 < (k : Int)) = true := by simp; omega
        have hk2 : decide (0 < k) = true := by simp; omega
        have hk3 : decide ((k : Int) > 0) = true := by simp; omega
        have hkl : k - 1 < x.sus.length := by omega
        have hkc : ((k - 1 : Nat) : Int) = (k : Int) - 1 := by omega
        obtain ⟨b2, off2, i2, j2, e2, hx2, -, -⟩ := hrq.at hbq rfl hkl
        cases e2
        obtain ⟨hg0, hg1⟩ := hrq.extw hkl hx2
        have hpr : prevOf x.sus k = some (i2, j2) := by simp [prevOf, hk0, hkl, hx2]
        have hij2 : okP (i2, j2) := by rw [hx2]; exact HOK.out _ (List.getElem_mem _)
        obtain ⟨q, hq⟩ : ∃ q, aheadP (i2, j2) (i, j) = q := ⟨_, rfl⟩
        have AH : ∀ U : ExtW wq, Calls Tryz.prog 80 #[.agg #[.int .u16 i2, .int .u32 j2], .agg #[.int .u16 i, .int .u32 j]] U.W fun e w' => e = .returned (.bool q) ∧ ∃ U' : ExtW wq, w' = U'.W := fun U => ext_of (aheadP_is (w := U.W) (hid hq) hij2 HIJ.out) rfl
        have HP : Hid (prevOk (prevOf x.sus k) (i, j) = q) := hid (by rw [hpr]; exact hq)
        have HKC := hid hkc
        clear hx2 hpr hq hkc hij2
        cases q
        case false =>
          refine wp_region_ext hbq (by kernel_rfl) (by kernel_rfl) ?_
          repeat (go_big_quiet_step (first | (with_reducible exact AH _) | (with_reducible exact MY _)))
          refine wpQuiet_nil ?_
          rintro _ ⟨⟨w9, hb9⟩, rfl⟩
          go_wp2
          go_ret
          exact ⟨by rw [ha.out, HST.out, HP.out]; rfl, HB1.out.trans ((HB1Q.out.trans (hb9.mono HB1Q.out.size)).mono HB1.out.size)⟩
        case true =>
          refine wp_region_ext hbq (by kernel_rfl) (by kernel_rfl) ?_
          repeat (go_big_quiet_step (first | (with_reducible exact AH _) | (with_reducible exact MY _)))
          refine wpQuiet_nil ?_
          rintro _ ⟨⟨w9, hb9⟩, rfl⟩
          go_wp2
          go_roundw
          case rel => exact ⟨rfl, k + 1, by omega, by go_num, hid (ha.out.trans (by rw [HST.out, HP.out]; rfl)), HB1Q.out.trans (hb9.mono HB1Q.out.size)⟩
          case measure => simp [intOf]; omega
    · go_wp2
      go_ret
      exact ⟨by rw [ha.out, susAt_end (by rw [hn.out]; omega)]; rfl, HB1.out.trans (hb.mono HB1.out.size)⟩
end Go.Proofs.YtppapeoainafbaaGreatDoor

namespace Go.Proofs.YtppapeoainafbaaGreatDoor
open Go.RowKit
/-! ### texts of beats -/
theorem beatT_no {x : BeatD} (h : beatChk x = false) : beatT x = [63] := by unfold beatT; rw [if_pos h]
theorem beatT_yes {x : BeatD} (h : beatChk x = true) : beatT x = ((([98, 101, 97, 116] ++ numT 118 x.v) ++ numT 97 x.ap) ++ numT 108 x.be) ++ numT 115 x.st ++ susT x.sus := by unfold beatT; rw [if_neg (by rw [h]; decide)]
theorem beat_lt {x : BeatD} (h : beatChk x = true) : x.v < 18446744073709551616 ∧ x.ap < 18446744073709551616 ∧ x.be < 18446744073709551616 ∧ x.st < 18446744073709551616 ∧ x.sus.length ≤ 24 := by
  unfold beatChk at h
  simp only [Bool.and_eq_true, decide_eq_true_eq] at h
  omega
set_option maxRecDepth 100000 in
set_option maxHeartbeats 6400000 in
theorem beatText_any {x : BeatD} {a : Option Addr} {c n : Nat} {w : World} (hn : Hid (x.sus.length = n)) (hl : n ≤ 1000) (hok : ∀ p ∈ x.sus, okP p) (hrow : PidRow w a x.sus) (ht : TabOk w) :
    Calls Tryz.prog 9 #[.agg #[.int .u64 x.v, .int .u64 x.ap, .int .u64 x.be, .int .u64 x.st, .slice a n c]] w fun e w' => e = .returned (.string ⟨(beatT x).toArray⟩) ∧ Below w.heap.size w w' := by
  obtain ⟨W1, hW1⟩ : ∃ W1, w.alloc (.cells #[.int .u64 x.v, .int .u64 x.ap, .int .u64 x.be, .int .u64 x.st, .slice a n c] 39) = W1 := ⟨_, rfl⟩
  have hB1 : Below w.heap.size w W1 := by rw [← hW1]; exact (Below.refl _ _).alloc (Nat.le_refl _) _
  have hbx : BeatBox W1 w.heap.size x a n c := by rw [← hW1]; exact BeatBox.made w
  have CK := hid (checkBeat_any (c := c) hn (by omega) hok (hrow.ext hB1))
  have HT := hid (ht.ext hB1)
  have HB1 := hid hB1
  have HOK := hid hok
  have HROW := hid (hrow.ext hB1)
  have HBX : Hid (∀ W, Below W1.heap.size W1 W → BeatBox W w.heap.size x a n c) := hid fun W h => hbx.ext h hbx.lt
  obtain ⟨c0, c1, c2, c3, c4⟩ := hbx
  cases hk : beatChk x
  case false =>
    rw [hk] at CK
    have HR := hid (beatT_no hk)
    clear hk hB1 hrow hok
    go_enter Tryz.func9, Tryz.ntmps9
    go_wp2_with (go_at_call 40; (with_reducible refine CK.out.mono ?_); rintro e w2 ⟨rfl, hb2⟩; have e1 : chkN false = 1 := rfl; rw [e1])
    go_ret
    exact ⟨by rw [HR.out]; rfl, HB1.out.trans (hb2.mono HB1.out.size)⟩
  case true =>
    rw [hk] at CK
    have hr := beatT_yes hk
    obtain ⟨l1, l2, l3, l4, l5⟩ := beat_lt hk
    have hn24 : n ≤ 24 := by rw [← hn.out]; exact l5
    have k1 := numT_len (c := 118) l1
    have k2 := numT_len (c := 97) l2
    have k3 := numT_len (c := 108) l3
    have k4 := numT_len (c := 115) l4
    obtain ⟨N1, hN1⟩ : ∃ N, numT 118 x.v = N := ⟨_, rfl⟩
    obtain ⟨N2, hN2⟩ : ∃ N, numT 97 x.ap = N := ⟨_, rfl⟩
    obtain ⟨N3, hN3⟩ : ∃ N, numT 108 x.be = N := ⟨_, rfl⟩
    obtain ⟨N4, hN4⟩ : ∃ N, numT 115 x.st = N := ⟨_, rfl⟩
    rw [hN1, hN2, hN3, hN4] at hr
    rw [hN1] at k1
    rw [hN2] at k2
    rw [hN3] at k3
    rw [hN4] at k4
    have C1 : ∀ W2, Below W1.heap.size W1 W2 → ∀ U : ExtW W2, Calls Tryz.prog 28 #[.string ⟨[118].toArray⟩, .int .u64 x.v] U.W fun e w' => e = .returned (.string ⟨N1.toArray⟩) ∧ ∃ U' : ExtW W2, w' = U'.W := fun W2 h U => quiet_of (numT_any 118 x.v l1 U.W (HT.out.ext (h.trans (U.h.mono h.size)))) (by rw [hN1])
    have C2 : ∀ W2, Below W1.heap.size W1 W2 → ∀ U : ExtW W2, Calls Tryz.prog 28 #[.string ⟨[97].toArray⟩, .int .u64 x.ap] U.W fun e w' => e = .returned (.string ⟨N2.toArray⟩) ∧ ∃ U' : ExtW W2, w' = U'.W := fun W2 h U => quiet_of (numT_any 97 x.ap l2 U.W (HT.out.ext (h.trans (U.h.mono h.size)))) (by rw [hN2])
    have C3 : ∀ W2, Below W1.heap.size W1 W2 → ∀ U : ExtW W2, Calls Tryz.prog 28 #[.string ⟨[108].toArray⟩, .int .u64 x.be] U.W fun e w' => e = .returned (.string ⟨N3.toArray⟩) ∧ ∃ U' : ExtW W2, w' = U'.W := fun W2 h U => quiet_of (numT_any 108 x.be l3 U.W (HT.out.ext (h.trans (U.h.mono h.size)))) (by rw [hN3])
    have C4 : ∀ W2, Below W1.heap.size W1 W2 → ∀ U : ExtW W2, Calls Tryz.prog 28 #[.string ⟨[115].toArray⟩, .int .u64 x.st] U.W fun e w' => e = .returned (.string ⟨N4.toArray⟩) ∧ ∃ U' : ExtW W2, w' = U'.W := fun W2 h U => quiet_of (numT_any 115 x.st l4 U.W (HT.out.ext (h.trans (U.h.mono h.size)))) (by rw [hN4])
    have b1 := run_cat [98, 101, 97, 116] N1 (by simp) (by omega)
    have b2 := run_cat ([98, 101, 97, 116] ++ N1) N2 (by simp; omega) (by omega)
    have b3 := run_cat (([98, 101, 97, 116] ++ N1) ++ N2) N3 (by simp; omega) (by omega)
    have b4 := run_cat ((([98, 101, 97, 116] ++ N1) ++ N2) ++ N3) N4 (by simp; omega) (by omega)
    have hl4 : (((([98, 101, 97, 116] ++ N1) ++ N2) ++ N3) ++ N4).length ≤ 200 := by simp; omega
    obtain ⟨T1, hT1⟩ : ∃ T, [98, 101, 97, 116] ++ N1 = T := ⟨_, rfl⟩
    rw [hT1] at b1 b2 b3 b4 hr hl4
    obtain ⟨T2, hT2⟩ : ∃ T, T1 ++ N2 = T := ⟨_, rfl⟩
    rw [hT2] at b2 b3 b4 hr hl4
    obtain ⟨T3, hT3⟩ : ∃ T, T2 ++ N3 = T := ⟨_, rfl⟩
    rw [hT3] at b3 b4 hr hl4
    obtain ⟨T4, hT4⟩ : ∃ T, T3 ++ N4 = T := ⟨_, rfl⟩
    rw [hT4] at b4 hr hl4
    have HR := hid hr
    have HL4 := hid hl4
    have HN24 := hid hn24
    have D1 := hid C1
    have D2 := hid C2
    have D3 := hid C3
    have D4 := hid C4
    clear hk hB1 hrow hok hr l1 l2 l3 l4 l5 hn24 k1 k2 k3 k4 hN1 hN2 hN3 hN4 hT1 hT2 hT3 hT4 hl4 C1 C2 C3 C4
    go_enter Tryz.func9, Tryz.ntmps9
    go_wp2_with fail
    (with_reducible refine CK.out.mono ?_)
    rintro e w2 ⟨rfl, hb2⟩
    have HB2 := hid hb2
    have e1 : chkN true = 0 := rfl
    rw [e1]
    clear e1
    have E1 := hid (D1.out w2 hb2)
    have E2 := hid (D2.out w2 hb2)
    have E3 := hid (D3.out w2 hb2)
    have E4 := hid (D4.out w2 hb2)
    obtain ⟨d0, d1, d2, d3, d4⟩ := HBX.out _ hb2
    have f0 := cell_extY d0
    have f1 := cell_extY d1
    have f2 := cell_extY d2
    have f3 := cell_extY d3
    clear hb2 CK hW1 D1 D2 D3 D4 c0 c1 c2 c3 c4 d0 d1 d2 d3 d4
    go_wp2_with fail
    refine wp_region_ext (w := w2) (Below.refl _ _) (by kernel_rfl) (by kernel_rfl) ?_
    repeat (go_big_quiet_step (first | with_reducible exact E1.out _ | with_reducible exact E2.out _ | with_reducible exact E3.out _ | with_reducible exact E4.out _))
    refine wpQuiet_nil ?_
    rintro w9 ⟨⟨_, hb9⟩, rfl⟩
    have HB9 := hid (HB2.out.trans (hb9.mono HB2.out.size))
    obtain ⟨d0, d1, d2, d3, d4⟩ := HBX.out _ HB9.out
    clear hb9 f0 f1 f2 f3 b1 b2 b3 b4 E1 E2 E3 E4 d0 d1 d2 d3
    go_wp2_with fail
    clear d4
    go_loopw [3, 28] (fun vo iv wr => ∃ (k : Nat) (out : Str), vo = .string ⟨out.toArray⟩ ∧ iv = .int .i64 k ∧ k ≤ n ∧ out.length ≤ 200 + 60 * k ∧ Hid (out ++ susT (x.sus.drop k) = beatT x) ∧ Hid (Below W1.heap.size W1 wr)) (fun _ iv _ => n - (intOf iv).toNat)
    case atStart => exact ⟨0, T4, rfl, rfl, Nat.zero_le _, HL4.out, hid (by rw [List.drop_zero]; exact HR.out.symm), HB9⟩
    case round =>
      obtain ⟨k, out, rfl, rfl, hk, hol, hf, hbw⟩ := hrel
      have hn24 := HN24.out
      obtain ⟨d0, d1, d2, d3, d4⟩ := HBX.out _ hbw.out
      clear d0 d1 d2 d3
      by_cases hlt : k < n
      · have hk1 : k < x.sus.length := by rw [hn.out]; exact hlt
        obtain ⟨b, o, i, j, rfl, hij, q0, q1⟩ := HROW.out.at hbw.out rfl hk1
        obtain ⟨g1, g2, g3, g4⟩ := HOK.out (i, j) (hij ▸ List.getElem_mem hk1)
        simp only at g1 g2 g3 g4
        obtain ⟨i, rfl⟩ := Int.eq_ofNat_of_zero_le g1
        obtain ⟨j, rfl⟩ := Int.eq_ofNat_of_zero_le g3
        have hi : i < 65536 := by omega
        have hj : j < 4294967296 := by omega
        have HD := hid (susT_drop hk1 hij)
        have hpl := printP_50 (p := ((i : Int), (j : Int))) ⟨g1, g2, g3, g4⟩
        obtain ⟨PP, hPP⟩ : ∃ PP, printP ((i : Int), (j : Int)) = PP := ⟨_, rfl⟩
        rw [hPP] at hpl HD
        have a1 := run_cat [32, 33] PP (by simp) (by omega)
        have a2 := run_cat out ([32, 33] ++ PP) (by omega) (by simp; omega)
        have hol2 : (out ++ ([32, 33] ++ PP)).length ≤ 200 + 60 * (k + 1) := by simp; omega
        obtain ⟨T0, hT0⟩ : ∃ T, [32, 33] ++ PP = T := ⟨_, rfl⟩
        rw [hT0] at a1 a2 hol2 HD
        have HEND : Hid ((out ++ T0) ++ susT (x.sus.drop (k + 1)) = beatT x) := hid (by rw [← hf.out, HD.out, List.append_assoc])
        obtain ⟨T1, hT1⟩ : ∃ T, out ++ T0 = T := ⟨_, rfl⟩
        rw [hT1] at a2 hol2 HEND
        obtain ⟨w6, hw6⟩ : ∃ w6, wr.alloc (.cells #[.int .u16 i, .int .u32 j] 25) = w6 := ⟨_, rfl⟩
        have hb6 : Below wr.heap.size wr w6 := by rw [← hw6]; exact (Below.refl _ _).alloc (Nat.le_refl _) _
        have HB6 := hid (hbw.out.trans (hb6.mono hbw.out.size))
        have CP := print_any hi hj w6 (HT.out.ext HB6.out)
        rw [hPP, ← hw6] at CP
        rw [← hw6] at HB6
        have HCP := hid CP
        have HOL2 := hid hol2
        clear hij g1 g2 g3 g4 hpl hPP hT0 hT1 hb6 hw6 CP hol2 HD hol d4 hf
        go_wp2_with fail
        (with_reducible refine HCP.out.mono ?_)
        rintro e w8 ⟨rfl, hb8⟩
        have HB8 := hid (HB6.out.trans (hb8.mono HB6.out.size))
        clear hb8 HCP q0 q1
        go_wp2_with fail
        go_roundw
        case rel => exact ⟨k + 1, T1, rfl, by go_num, by omega, HOL2.out, HEND, HB8⟩
        case measure => simp [intOf]; omega
      · have hke : x.sus.drop k = [] := List.drop_eq_nil_of_le (by rw [hn.out]; omega)
        have HRES : Hid (out = beatT x) := hid (by rw [← hf.out, hke]; simp [susT])
        clear hke hf hol
        go_wp2_with fail
        go_ret
        exact ⟨by rw [HRES.out]; rfl, HB1.out.trans (hbw.out.mono HB1.out.size)⟩
set_option maxRecDepth 100000 in
set_option maxHeartbeats 6400000 in
theorem beatTextR_any {x : BeatD} {a : Option Addr} {c n : Nat} {w : World} (hn : Hid (x.sus.length = n)) (hl : n ≤ 1000) (hok : ∀ p ∈ x.sus, okP p) (hrow : PidRow w a x.sus) :
    Calls Tryz.prog 10 #[.agg #[.int .u64 x.v, .int .u64 x.ap, .int .u64 x.be, .int .u64 x.st, .slice a n c]] w fun e w' => e = .returned (.string ⟨(beatT x).toArray⟩) ∧ Below w.heap.size w w' := by
  obtain ⟨W1, hW1⟩ : ∃ W1, w.alloc (.cells #[.int .u64 x.v, .int .u64 x.ap, .int .u64 x.be, .int .u64 x.st, .slice a n c] 39) = W1 := ⟨_, rfl⟩
  have hB1 : Below w.heap.size w W1 := by rw [← hW1]; exact (Below.refl _ _).alloc (Nat.le_refl _) _
  have hbx : BeatBox W1 w.heap.size x a n c := by rw [← hW1]; exact BeatBox.made w
  have CK := hid (checkBeatR_any (c := c) hn (by omega) hok (hrow.ext hB1))
  have HB1 := hid hB1
  have HOK := hid hok
  have HROW := hid (hrow.ext hB1)
  have HBX : Hid (∀ W, Below W1.heap.size W1 W → BeatBox W w.heap.size x a n c) := hid fun W h => hbx.ext h hbx.lt
  obtain ⟨c0, c1, c2, c3, c4⟩ := hbx
  cases hk : beatChk x
  case false =>
    rw [hk] at CK
    have HR := hid (beatT_no hk)
    clear hk hB1 hrow hok
    go_enter Tryz.func10, Tryz.ntmps10
    go_wp2_with (go_at_call 41; (with_reducible refine CK.out.mono ?_); rintro e w2 ⟨rfl, hb2⟩)
    go_ret
    exact ⟨by rw [HR.out]; rfl, HB1.out.trans (hb2.mono HB1.out.size)⟩
  case true =>
    rw [hk] at CK
    have hr := beatT_yes hk
    obtain ⟨l1, l2, l3, l4, l5⟩ := beat_lt hk
    have hn24 : n ≤ 24 := by rw [← hn.out]; exact l5
    have k1 := numT_len (c := 118) l1
    have k2 := numT_len (c := 97) l2
    have k3 := numT_len (c := 108) l3
    have k4 := numT_len (c := 115) l4
    obtain ⟨N1, hN1⟩ : ∃ N, numT 118 x.v = N := ⟨_, rfl⟩
    obtain ⟨N2, hN2⟩ : ∃ N, numT 97 x.ap = N := ⟨_, rfl⟩
    obtain ⟨N3, hN3⟩ : ∃ N, numT 108 x.be = N := ⟨_, rfl⟩
    obtain ⟨N4, hN4⟩ : ∃ N, numT 115 x.st = N := ⟨_, rfl⟩
    rw [hN1, hN2, hN3, hN4] at hr
    rw [hN1] at k1
    rw [hN2] at k2
    rw [hN3] at k3
    rw [hN4] at k4
    have C1 : ∀ W2, Below W1.heap.size W1 W2 → ∀ U : ExtW W2, Calls Tryz.prog 36 #[.string ⟨[118].toArray⟩, .int .u64 x.v] U.W fun e w' => e = .returned (.string ⟨N1.toArray⟩) ∧ ∃ U' : ExtW W2, w' = U'.W := fun W2 h U => quiet_of (numTR_any 118 x.v l1 U.W) (by rw [hN1])
    have C2 : ∀ W2, Below W1.heap.size W1 W2 → ∀ U : ExtW W2, Calls Tryz.prog 36 #[.string ⟨[97].toArray⟩, .int .u64 x.ap] U.W fun e w' => e = .returned (.string ⟨N2.toArray⟩) ∧ ∃ U' : ExtW W2, w' = U'.W := fun W2 h U => quiet_of (numTR_any 97 x.ap l2 U.W) (by rw [hN2])
    have C3 : ∀ W2, Below W1.heap.size W1 W2 → ∀ U : ExtW W2, Calls Tryz.prog 36 #[.string ⟨[108].toArray⟩, .int .u64 x.be] U.W fun e w' => e = .returned (.string ⟨N3.toArray⟩) ∧ ∃ U' : ExtW W2, w' = U'.W := fun W2 h U => quiet_of (numTR_any 108 x.be l3 U.W) (by rw [hN3])
    have C4 : ∀ W2, Below W1.heap.size W1 W2 → ∀ U : ExtW W2, Calls Tryz.prog 36 #[.string ⟨[115].toArray⟩, .int .u64 x.st] U.W fun e w' => e = .returned (.string ⟨N4.toArray⟩) ∧ ∃ U' : ExtW W2, w' = U'.W := fun W2 h U => quiet_of (numTR_any 115 x.st l4 U.W) (by rw [hN4])
    have b1 := run_cat [98, 101, 97, 116] N1 (by simp) (by omega)
    have b2 := run_cat ([98, 101, 97, 116] ++ N1) N2 (by simp; omega) (by omega)
    have b3 := run_cat (([98, 101, 97, 116] ++ N1) ++ N2) N3 (by simp; omega) (by omega)
    have b4 := run_cat ((([98, 101, 97, 116] ++ N1) ++ N2) ++ N3) N4 (by simp; omega) (by omega)
    have hl4 : (((([98, 101, 97, 116] ++ N1) ++ N2) ++ N3) ++ N4).length ≤ 200 := by simp; omega
    obtain ⟨T1, hT1⟩ : ∃ T, [98, 101, 97, 116] ++ N1 = T := ⟨_, rfl⟩
    rw [hT1] at b1 b2 b3 b4 hr hl4
    obtain ⟨T2, hT2⟩ : ∃ T, T1 ++ N2 = T := ⟨_, rfl⟩
    rw [hT2] at b2 b3 b4 hr hl4
    obtain ⟨T3, hT3⟩ : ∃ T, T2 ++ N3 = T := ⟨_, rfl⟩
    rw [hT3] at b3 b4 hr hl4
    obtain ⟨T4, hT4⟩ : ∃ T, T3 ++ N4 = T := ⟨_, rfl⟩
    rw [hT4] at b4 hr hl4
    have HR := hid hr
    have HL4 := hid hl4
    have HN24 := hid hn24
    have D1 := hid C1
    have D2 := hid C2
    have D3 := hid C3
    have D4 := hid C4
    clear hk hB1 hrow hok hr l1 l2 l3 l4 l5 hn24 k1 k2 k3 k4 hN1 hN2 hN3 hN4 hT1 hT2 hT3 hT4 hl4 C1 C2 C3 C4
    go_enter Tryz.func10, Tryz.ntmps10
    go_wp2_with fail
    (with_reducible refine CK.out.mono ?_)
    rintro e w2 ⟨rfl, hb2⟩
    have HB2 := hid hb2
    have E1 := hid (D1.out w2 hb2)
    have E2 := hid (D2.out w2 hb2)
    have E3 := hid (D3.out w2 hb2)
    have E4 := hid (D4.out w2 hb2)
    obtain ⟨d0, d1, d2, d3, d4⟩ := HBX.out _ hb2
    have f0 := cell_extY d0
    have f1 := cell_extY d1
    have f2 := cell_extY d2
    have f3 := cell_extY d3
    clear hb2 CK hW1 D1 D2 D3 D4 c0 c1 c2 c3 c4 d0 d1 d2 d3 d4
    go_wp2_with fail
    refine wp_region_ext (w := w2) (Below.refl _ _) (by kernel_rfl) (by kernel_rfl) ?_
    repeat (go_big_quiet_step (first | with_reducible exact E1.out _ | with_reducible exact E2.out _ | with_reducible exact E3.out _ | with_reducible exact E4.out _))
    refine wpQuiet_nil ?_
    rintro w9 ⟨⟨_, hb9⟩, rfl⟩
    have HB9 := hid (HB2.out.trans (hb9.mono HB2.out.size))
    obtain ⟨d0, d1, d2, d3, d4⟩ := HBX.out _ HB9.out
    clear hb9 f0 f1 f2 f3 b1 b2 b3 b4 E1 E2 E3 E4 d0 d1 d2 d3
    go_wp2_with fail
    clear d4
    go_loopw [3, 4] (fun vo iv wr => ∃ (k : Nat) (out : Str), vo = .string ⟨out.toArray⟩ ∧ iv = .int .i64 k ∧ k ≤ n ∧ out.length ≤ 200 + 60 * k ∧ Hid (out ++ susT (x.sus.drop k) = beatT x) ∧ Hid (Below W1.heap.size W1 wr)) (fun _ iv _ => n - (intOf iv).toNat)
    case atStart => exact ⟨0, T4, rfl, rfl, Nat.zero_le _, HL4.out, hid (by rw [List.drop_zero]; exact HR.out.symm), HB9⟩
    case round =>
      obtain ⟨k, out, rfl, rfl, hk, hol, hf, hbw⟩ := hrel
      have hn24 := HN24.out
      obtain ⟨d0, d1, d2, d3, d4⟩ := HBX.out _ hbw.out
      clear d0 d1 d2 d3
      by_cases hlt : k < n
      · have hk1 : k < x.sus.length := by rw [hn.out]; exact hlt
        obtain ⟨b, o, i, j, rfl, hij, q0, q1⟩ := HROW.out.at hbw.out rfl hk1
        obtain ⟨g1, g2, g3, g4⟩ := HOK.out (i, j) (hij ▸ List.getElem_mem hk1)
        simp only at g1 g2 g3 g4
        obtain ⟨i, rfl⟩ := Int.eq_ofNat_of_zero_le g1
        obtain ⟨j, rfl⟩ := Int.eq_ofNat_of_zero_le g3
        have hi : i < 65536 := by omega
        have hj : j < 4294967296 := by omega
        have HD := hid (susT_drop hk1 hij)
        have hpl := printP_50 (p := ((i : Int), (j : Int))) ⟨g1, g2, g3, g4⟩
        obtain ⟨PP, hPP⟩ : ∃ PP, printP ((i : Int), (j : Int)) = PP := ⟨_, rfl⟩
        rw [hPP] at hpl HD
        have a1 := run_cat out [32, 33] (by omega) (by simp)
        have a2 := run_cat (out ++ [32, 33]) PP (by simp; omega) (by omega)
        have hol2 : ((out ++ [32, 33]) ++ PP).length ≤ 200 + 60 * (k + 1) := by simp; omega
        have HEND : Hid (((out ++ [32, 33]) ++ PP) ++ susT (x.sus.drop (k + 1)) = beatT x) := hid (by rw [← hf.out, HD.out]; simp only [List.append_assoc])
        obtain ⟨T0, hT0⟩ : ∃ T, out ++ [32, 33] = T := ⟨_, rfl⟩
        rw [hT0] at a1 a2 hol2 HEND
        obtain ⟨T1, hT1⟩ : ∃ T, T0 ++ PP = T := ⟨_, rfl⟩
        rw [hT1] at a2 hol2 HEND
        have CP := refPrint_any hi hj wr
        rw [hPP] at CP
        have HCP := hid CP
        have HOL2 := hid hol2
        clear hij g1 g2 g3 g4 hpl hPP hT0 hT1 CP hol2 HD hol hf
        go_wp2_with fail
        (with_reducible refine HCP.out.mono ?_)
        rintro e w8 ⟨rfl, hb8⟩
        have HB8 := hid (hbw.out.trans (hb8.mono hbw.out.size))
        clear hb8 HCP q0 q1 d4
        go_wp2_with fail
        go_roundw
        case rel => exact ⟨k + 1, T1, rfl, by go_num, by omega, HOL2.out, HEND, HB8⟩
        case measure => simp [intOf]; omega
      · have hke : x.sus.drop k = [] := List.drop_eq_nil_of_le (by rw [hn.out]; omega)
        have HRES : Hid (out = beatT x) := hid (by rw [← hf.out, hke]; simp [susT])
        clear hke hf hol
        go_wp2_with fail
        go_ret
        exact ⟨by rw [HRES.out]; rfl, HB1.out.trans (hbw.out.mono HB1.out.size)⟩
end Go.Proofs.YtppapeoainafbaaGreatDoor

