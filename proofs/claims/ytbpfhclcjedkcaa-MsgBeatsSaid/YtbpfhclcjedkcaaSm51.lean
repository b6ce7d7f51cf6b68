/- Parts of the proof: X82 X83 X84 X85. -/
import Derived.Deep.RegionHeld3
import Derived.Deep.DeepCutAuto
import Derived.Lib.EndianBits
import Derived.Test.YtbpfhclcjedkcaaR2
import Derived.Test.YtbpfhclcjedkcaaSm10
import Derived.Test.YtbpfhclcjedkcaaSm17
import Derived.Test.YtbpfhclcjedkcaaSm39
import Derived.Test.YtbpfhclcjedkcaaSm4
import Derived.Test.YtbpfhclcjedkcaaSm40
import Derived.Test.YtbpfhclcjedkcaaSm6
namespace Go.Proofs.Ytbpfhclcjedkcaa
open Go.RowKit
/-! ### Ahead; the reference's CheckBeat and SameBeat; msg.checkBeat -/
theorem ext_of {P : Program} {f : FuncId} {args : Array Value} {w0 : World} {U : ExtW w0} {v v' : Value} (h : Calls P f args U.W fun e w' => e = .returned v ∧ Below U.W.heap.size U.W w') (hv : v = v') :
    Calls P f args U.W fun e w' => e = .returned v' ∧ ∃ U' : ExtW w0, w' = U'.W := by
  subst hv
  refine h.mono ?_
  rintro e w' ⟨rfl, hb⟩
  exact ⟨rfl, ⟨_, U.h.trans (hb.mono U.h.size)⟩, rfl⟩
theorem ret_u64 {a b : Int} (h : a = b) : Ending.returned (.int .u64 a) = .returned (.int .u64 b) := by rw [h]
theorem u64_or32 (x y : Int) (hy₀ : 0 ≤ y) (hy : y < 4294967296) (hx₀ : 0 ≤ x) (hx : x % 4294967296 = 0) (hx₁ : x < 18446744073709551616) : bits .or .u64 x y = x + y :=
  bits_join .u64 64 (by decide) wraps_u64 32 x y hx₀ hx hx₁ hy₀ hy (by omega)
def numOf (p : Pid) : Int := p.1 * 4294967296 + p.2
set_option maxHeartbeats 400000 in
theorem number_any (x y : Int) (w : World) (h : okP (x, y)) : Calls Try.prog 232 #[.agg #[.int .u16 x, .int .u32 y]] w fun e w' => e = .returned (.int .u64 (numOf (x, y))) ∧ Below w.heap.size w w' := by
  obtain ⟨hx, hx2, hy, hy2⟩ := h
  simp only at hx hx2 hy hy2
  have hB : Below w.heap.size w (w.alloc (.cells #[.int .u16 x, .int .u32 y] 26)) := (Below.refl _ _).alloc (Nat.le_refl _) _
  go_enter Try.func232, Try.ntmps232
  go_wp2
  go_ret
  exact ⟨ret_u64 (u64_or32 _ _ hy hy2 (by omega) (by omega) (by omega)), hB⟩

def ahead (p q : Pid) : Bool := decide (numOf p < numOf q)
set_option maxHeartbeats 400000 in
theorem aheadO_any (a b c d : Int) (w : World) (h1 : okP (a, b)) (h2 : okP (c, d)) : Calls Try.prog 195 #[.agg #[.int .u16 a, .int .u32 b], .agg #[.int .u16 c, .int .u32 d]] w fun e w' => e = .returned (.bool (ahead (a, b) (c, d))) ∧ Below w.heap.size w w' := by
  have hB : Below w.heap.size w ((w.alloc (.cells #[.int .u16 a, .int .u32 b] 26)).alloc (.cells #[.int .u16 c, .int .u32 d] 26)) := ((Below.refl _ _).alloc (Nat.le_refl _) _).alloc (by simp) _
  have hz : w.heap.size ≤ ((w.alloc (.cells #[.int .u16 a, .int .u32 b] 26)).alloc (.cells #[.int .u16 c, .int .u32 d] 26)).heap.size := by simp; omega
  have k0 : ((w.alloc (.cells #[.int .u16 a, .int .u32 b] 26)).alloc (.cells #[.int .u16 c, .int .u32 d] 26)).cell? ⟨w.heap.size, 0, none⟩ = some (.int .u16 a) := by simp
  have k1 : ((w.alloc (.cells #[.int .u16 a, .int .u32 b] 26)).alloc (.cells #[.int .u16 c, .int .u32 d] 26)).cell? ⟨w.heap.size, 1, none⟩ = some (.int .u32 b) := by simp
  have k2 : ((w.alloc (.cells #[.int .u16 a, .int .u32 b] 26)).alloc (.cells #[.int .u16 c, .int .u32 d] 26)).cell? ⟨w.heap.size + 1, 0, none⟩ = some (.int .u16 c) := by simp
  have k3 : ((w.alloc (.cells #[.int .u16 a, .int .u32 b] 26)).alloc (.cells #[.int .u16 c, .int .u32 d] 26)).cell? ⟨w.heap.size + 1, 1, none⟩ = some (.int .u32 d) := by simp
  go_enter Try.func195, Try.ntmps195
  go_wp2
  revert hB hz k0 k1 k2 k3
  generalize (w.alloc (.cells #[.int .u16 a, .int .u32 b] 26)).alloc (.cells #[.int .u16 c, .int .u32 d] 26) = wr
  intro hB hz k0 k1 k2 k3
  have f0 := cell_extw k0
  have f1 := cell_extw k1
  have f2 := cell_extw k2
  have f3 := cell_extw k3
  clear k0 k1 k2 k3
  have n1 : ∀ U : ExtW wr, Calls Try.prog 232 #[.agg #[.int .u16 a, .int .u32 b]] U.W fun e w' => e = .returned (.int .u64 (numOf (a, b))) ∧ ∃ U' : ExtW wr, w' = U'.W := fun U => ext_of (number_any a b U.W h1) rfl
  have n2 : ∀ U : ExtW wr, Calls Try.prog 232 #[.agg #[.int .u16 c, .int .u32 d]] U.W fun e w' => e = .returned (.int .u64 (numOf (c, d))) ∧ ∃ U' : ExtW wr, w' = U'.W := fun U => ext_of (number_any c d U.W h2) rfl
  have hs : ahead (a, b) (c, d) = decide (numOf (a, b) < numOf (c, d)) := rfl
  have HS := hid hs
  clear hs
  revert n1 n2 HS
  generalize numOf (a, b) = A
  generalize numOf (c, d) = B
  intro n1 n2 HS
  refine wp_region_ext (w := wr) (Below.refl _ _) (by kernel_rfl) (by kernel_rfl) ?_
  repeat (go_big_quiet_step (first | (go_at_call_of 232 c; exact n2 _) | exact n1 _))
  refine wpQuiet_nil ?_
  rintro w9 ⟨⟨_, hb9⟩, rfl⟩
  go_wp2
  go_ret
  exact ⟨ret_bool HS.out.symm, hB.trans (hb9.mono hz)⟩

theorem aheadP_num {p q : Pid} (h1 : okP p) (h2 : okP q) : ahead p q = aheadP p q := by
  obtain ⟨x1, x2, x3, x4⟩ := h1
  obtain ⟨y1, y2, y3, y4⟩ := h2
  unfold ahead aheadP numOf
  congr 1
  simp only [eq_iff_iff]
  omega
theorem aheadP_is {a b c d : Int} {w : World} {r : Bool} (h : Hid (aheadP (a, b) (c, d) = r)) (h1 : okP (a, b)) (h2 : okP (c, d)) : Calls Try.prog 195 #[.agg #[.int .u16 a, .int .u32 b], .agg #[.int .u16 c, .int .u32 d]] w fun e w' => e = .returned (.bool r) ∧ Below w.heap.size w w' :=
  (aheadO_any a b c d w h1 h2).mono fun _ _ ⟨e1, e2⟩ => ⟨by rw [e1, aheadP_num h1 h2, h.out], e2⟩
set_option maxHeartbeats 400000 in
theorem aheadPR_is {a b c d : Int} {w : World} {r : Bool} (h : Hid (aheadP (a, b) (c, d) = r)) : Calls Try.prog 123 #[.agg #[.int .u16 a, .int .u32 b], .agg #[.int .u16 c, .int .u32 d]] w fun e w' => e = .returned (.bool r) ∧ Below w.heap.size w w' := by
  have hB : Below w.heap.size w ((w.alloc (.cells #[.int .u16 a, .int .u32 b] 26)).alloc (.cells #[.int .u16 c, .int .u32 d] 26)) := ((Below.refl _ _).alloc (Nat.le_refl _) _).alloc (by simp) _
  by_cases hac : a = c
  · subst hac
    have e1 : (a != a) = false := by simp
    have e2 : Hid (decide (b < d) = r) := hid (by rw [← h.out]; unfold aheadP; simp)
    go_enter Try.func123, Try.ntmps123
    go_wp2
    go_ret
    exact ⟨ret_bool e2.out, hB⟩
  · have e1 : (a != c) = true := by simpa using hac
    have e2 : Hid (decide (a < c) = r) := hid (by rw [← h.out]; unfold aheadP; simp [hac])
    clear hac
    go_enter Try.func123, Try.ntmps123
    go_wp2
    go_ret
    exact ⟨ret_bool e2.out, hB⟩
/-- those who are suspected, from a place on -/
def susAt (l : List Pid) (k : Nat) : Bool := susB (prevOf l k) (l.drop k)
def prevOk (pr : Option Pid) (p : Pid) : Bool := match pr with | none => true | some q => aheadP q p
theorem susAt_step {l : List Pid} {k : Nat} (h : k < l.length) {x y : Int} (hx : (x, y) = l[k]) : susAt l k = ((mayP (x, y) && prevOk (prevOf l k) (x, y)) && susAt l (k + 1)) := by
  unfold susAt
  rw [List.drop_eq_getElem_cons h, ← hx, prevOf_succ h hx]
  rfl
theorem susAt_end {l : List Pid} {k : Nat} (h : l.length ≤ k) : susAt l k = true := by
  unfold susAt; rw [List.drop_eq_nil_of_le h]; rfl
structure BeatBox (w : World) (g : Nat) (x : BeatD) (a : Option Addr) (n c : Nat) : Prop where
  c0 : w.cell? ⟨g, 0, none⟩ = some (.int .u64 x.v)
  c1 : w.cell? ⟨g, 1, none⟩ = some (.int .u64 x.ap)
  c2 : w.cell? ⟨g, 2, none⟩ = some (.int .u64 x.be)
  c3 : w.cell? ⟨g, 3, none⟩ = some (.int .u64 x.st)
  c4 : w.cell? ⟨g, 4, none⟩ = some (.slice a n c)
theorem BeatBox.lt {w : World} {g : Nat} {x : BeatD} {a : Option Addr} {n c : Nat} (h : BeatBox w g x a n c) : g < w.heap.size := World.block_lt_of_cell? w _ h.c0
theorem BeatBox.ext {w w' : World} {g : Nat} {x : BeatD} {a : Option Addr} {n c B : Nat} (h : BeatBox w g x a n c) (hb : Below B w w') (hB : g < B) : BeatBox w' g x a n c :=
  ⟨(hb.cell (by exact hB)).trans h.c0, (hb.cell (by exact hB)).trans h.c1, (hb.cell (by exact hB)).trans h.c2, (hb.cell (by exact hB)).trans h.c3, (hb.cell (by exact hB)).trans h.c4⟩
theorem BeatBox.made {x : BeatD} {a : Option Addr} {n c : Nat} (w : World) : BeatBox (w.alloc (.cells #[.int .u64 x.v, .int .u64 x.ap, .int .u64 x.be, .int .u64 x.st, .slice a n c] 54)) w.heap.size x a n c := ⟨by simp, by simp, by simp, by simp, by simp⟩
theorem beatChk_no {x : BeatD} (h : ¬ (x.v ≤ 4611686018427387904 ∧ x.ap ≤ 4611686018427387904 ∧ x.be ≤ 4611686018427387904 ∧ x.st ≤ 4611686018427387904 ∧ x.sus.length ≤ 24)) : beatChk x = false := by
  cases h' : beatChk x
  · rfl
  · unfold beatChk at h'
    simp only [Bool.and_eq_true, decide_eq_true_eq] at h'
    exact absurd ⟨h'.1, h'.2.1, h'.2.2.1, h'.2.2.2.1, h'.2.2.2.2.1⟩ h
theorem beatChk_yes {x : BeatD} (h : x.v ≤ 4611686018427387904 ∧ x.ap ≤ 4611686018427387904 ∧ x.be ≤ 4611686018427387904 ∧ x.st ≤ 4611686018427387904 ∧ x.sus.length ≤ 24) : beatChk x = susAt x.sus 0 := by
  obtain ⟨h1, h2, h3, h4, h5⟩ := h
  unfold beatChk susAt
  rw [decide_eq_true h1, decide_eq_true h2, decide_eq_true h3, decide_eq_true h4, decide_eq_true h5]; rfl
set_option maxRecDepth 100000 in
set_option maxHeartbeats 6400000 in
theorem checkBeatR_any {x : BeatD} {a : Option Addr} {c n : Nat} {w : World} (hn : Hid (x.sus.length = n)) (hl : n ≤ 70368744177664) (hok : ∀ p ∈ x.sus, okP p) (hrow : PidRow w a x.sus) :
    Calls Try.prog 36 #[.agg #[.int .u64 x.v, .int .u64 x.ap, .int .u64 x.be, .int .u64 x.st, .slice a n c]] w fun e w' => e = .returned (.bool (beatChk x)) ∧ Below w.heap.size w w' := by
  obtain ⟨W1, hW1⟩ : ∃ W1, w.alloc (.cells #[.int .u64 x.v, .int .u64 x.ap, .int .u64 x.be, .int .u64 x.st, .slice a n c] 54) = W1 := ⟨_, rfl⟩
  have hB1 : Below w.heap.size w W1 := by rw [← hW1]; exact (Below.refl _ _).alloc (Nat.le_refl _) _
  have hbx : BeatBox W1 w.heap.size x a n c := by rw [← hW1]; exact BeatBox.made w
  have hrow1 := hrow.ext hB1
  have HB1 := hid hB1
  have HOK := hid hok
  have HROW := hid hrow1
  have HBX := hid hbx
  have hlt0 := hbx.lt
  obtain ⟨c0, c1, c2, c3, c4⟩ := hbx
  clear hB1 hrow hrow1 hok
  by_cases b0 : 4611686018427387904 < x.v
  · have HNO : Hid (beatChk x = false) := hid (beatChk_no (by omega))
    have s0 : decide (4611686018427387904 < x.v) = true := by simpa using b0
    have u0 : decide ((4611686018427387904 : Int) < (x.v : Int)) = true := by simp; omega
    have y0 : decide ((x.v : Int) > 4611686018427387904) = true := by simp; omega
    clear b0
    go_enter Try.func36, Try.ntmps36
    go_wp2
    go_ret
    exact ⟨by rw [HNO.out]; rfl, HB1.out⟩
  have s0 : decide (4611686018427387904 < x.v) = false := by simp; omega
  have u0 : decide ((4611686018427387904 : Int) < (x.v : Int)) = false := by simp; omega
  have y0 : decide ((x.v : Int) > 4611686018427387904) = false := by simp; omega
  by_cases b1 : 4611686018427387904 < x.ap
  · have HNO : Hid (beatChk x = false) := hid (beatChk_no (by omega))
    have s1 : decide (4611686018427387904 < x.ap) = true := by simpa using b1
    have u1 : decide ((4611686018427387904 : Int) < (x.ap : Int)) = true := by simp; omega
    have y1 : decide ((x.ap : Int) > 4611686018427387904) = true := by simp; omega
    clear b1
    go_enter Try.func36, Try.ntmps36
    go_wp2
    go_ret
    exact ⟨by rw [HNO.out]; rfl, HB1.out⟩
  have s1 : decide (4611686018427387904 < x.ap) = false := by simp; omega
  have u1 : decide ((4611686018427387904 : Int) < (x.ap : Int)) = false := by simp; omega
  have y1 : decide ((x.ap : Int) > 4611686018427387904) = false := by simp; omega
  by_cases b2 : 4611686018427387904 < x.be
  · have HNO : Hid (beatChk x = false) := hid (beatChk_no (by omega))
    have s2 : decide (4611686018427387904 < x.be) = true := by simpa using b2
    have u2 : decide ((4611686018427387904 : Int) < (x.be : Int)) = true := by simp; omega
    have y2 : decide ((x.be : Int) > 4611686018427387904) = true := by simp; omega
    clear b2
    go_enter Try.func36, Try.ntmps36
    go_wp2
    go_ret
    exact ⟨by rw [HNO.out]; rfl, HB1.out⟩
  have s2 : decide (4611686018427387904 < x.be) = false := by simp; omega
  have u2 : decide ((4611686018427387904 : Int) < (x.be : Int)) = false := by simp; omega
  have y2 : decide ((x.be : Int) > 4611686018427387904) = false := by simp; omega
  by_cases b3 : 4611686018427387904 < x.st
  · have HNO : Hid (beatChk x = false) := hid (beatChk_no (by omega))
    have s3 : decide (4611686018427387904 < x.st) = true := by simpa using b3
    have u3 : decide ((4611686018427387904 : Int) < (x.st : Int)) = true := by simp; omega
    have y3 : decide ((x.st : Int) > 4611686018427387904) = true := by simp; omega
    clear b3
    go_enter Try.func36, Try.ntmps36
    go_wp2
    go_ret
    exact ⟨by rw [HNO.out]; rfl, HB1.out⟩
  have s3 : decide (4611686018427387904 < x.st) = false := by simp; omega
  have u3 : decide ((4611686018427387904 : Int) < (x.st : Int)) = false := by simp; omega
  have y3 : decide ((x.st : Int) > 4611686018427387904) = false := by simp; omega
  by_cases b4 : 24 < n
  · have HNO : Hid (beatChk x = false) := hid (beatChk_no (by have := hn.out; omega))
    have s4 : decide (24 < n) = true := by simpa using b4
    have u4 : decide ((24 : Int) < (n : Int)) = true := by simp; omega
    have y4 : decide ((n : Int) > 24) = true := by simp; omega
    clear b0 b1 b2 b3 b4
    go_enter Try.func36, Try.ntmps36
    go_wp2
    go_ret
    exact ⟨by rw [HNO.out]; rfl, HB1.out⟩
  have s4 : decide (24 < n) = false := by simp; omega
  have u4 : decide ((24 : Int) < (n : Int)) = false := by simp; omega
  have y4 : decide ((n : Int) > 24) = false := by simp; omega
  have HYES : Hid (beatChk x = susAt x.sus 0) := hid (beatChk_yes (by have := hn.out; omega))
  have hn24 : n ≤ 24 := by omega
  clear b0 b1 b2 b3 b4
  go_enter Try.func36, Try.ntmps36
  go_wp2
  go_loopw [2, 3] (fun rs i wr => rs = .bool false ∧ ∃ k : Nat, k ≤ n ∧ i = .int .i64 k ∧ Hid (beatChk x = susAt x.sus k) ∧ Below W1.heap.size W1 wr) (fun _ i _ => n - (intOf i).toNat)
  case atStart => exact ⟨rfl, 0, Nat.zero_le _, rfl, HYES, Below.refl _ _⟩
  case round =>
    obtain ⟨rfl, k, hk, rfl, ha, hb⟩ := hrel
    obtain ⟨d0, d1, d2, d3, d4⟩ := HBX.out.ext hb HBX.out.lt
    have x4 := cell_extw HBX.out.c4
    by_cases hlt : k < n
    · have hlt' : k < x.sus.length := by rw [hn.out]; exact hlt
      obtain ⟨b, off, i, j, rfl, hx, -, -⟩ := HROW.out.at hb rfl hlt'
      obtain ⟨hd0, hd1⟩ := HROW.out.extw hlt' hx
      have hst := susAt_step hlt' hx
      have hij : okP (i, j) := by rw [hx]; exact HOK.out _ (List.getElem_mem _)
      obtain ⟨m, hm⟩ : ∃ m, mayP (i, j) = m := ⟨_, rfl⟩
      rw [hm] at hst
      have MY : ∀ U : ExtW W1, Calls Try.prog 68 #[.agg #[.int .u16 i, .int .u32 j]] U.W fun e w' => e = .returned (.bool m) ∧ ∃ U' : ExtW W1, w' = U'.W := fun U => ext_of (mayR_is (w := U.W) (hid (show mayR (i, j) = m from hm))) rfl
      have HST := hid hst
      have HX := hid hx
      have HIJ := hid hij
      clear hst hx hm hij d0 d1 d2 d3 c0 c1 c2 c3
      cases m
      case false =>
        go_wp2
        refine wp_region_ext hb (by kernel_rfl) (by kernel_rfl) ?_
        repeat (go_big_quiet_step (with_reducible exact MY _))
        refine wpQuiet_nil ?_
        rintro _ ⟨⟨w9, hb9⟩, rfl⟩
        go_wp2
        go_ret
        exact ⟨by rw [ha.out, HST.out]; rfl, HB1.out.trans (hb9.mono HB1.out.size)⟩
      case true =>
      by_cases hk0 : k = 0
      · have hk1 : decide (0 < (k : Int)) = false := by simp; omega
        have hk2 : decide (0 < k) = false := by simp; omega
        have hk3 : decide ((k : Int) > 0) = false := by simp; omega
        have HP : Hid (prevOk (prevOf x.sus k) (i, j) = true) := hid (by rw [hk0]; rfl)
        clear hk0
        go_wp2
        refine wp_region_ext hb (by kernel_rfl) (by kernel_rfl) ?_
        repeat (go_big_quiet_step (with_reducible exact MY _))
        refine wpQuiet_nil ?_
        rintro _ ⟨⟨w9, hb9⟩, rfl⟩
        go_wp2
        go_roundw
        case rel => exact ⟨rfl, k + 1, by omega, by go_num, hid (ha.out.trans (by rw [HST.out, HP.out]; rfl)), hb9⟩
        case measure => simp [intOf]; omega
      · have hk1 : decide (0 < (k : Int)) = true := by simp; omega
        have hk2 : decide (0 < k) = true := by simp; omega
        have hk3 : decide ((k : Int) > 0) = true := by simp; omega
        have hkl : k - 1 < x.sus.length := by omega
        have hkc : ((k - 1 : Nat) : Int) = (k : Int) - 1 := by omega
        obtain ⟨b2, off2, i2, j2, e2, hx2, -, -⟩ := HROW.out.at hb rfl hkl
        cases e2
        obtain ⟨hg0, hg1⟩ := HROW.out.extw hkl hx2
        have hpr : prevOf x.sus k = some (i2, j2) := by simp [prevOf, hk0, hkl, hx2]
        obtain ⟨q, hq⟩ : ∃ q, aheadP (i2, j2) (i, j) = q := ⟨_, rfl⟩
        have AH : ∀ U : ExtW W1, Calls Try.prog 123 #[.agg #[.int .u16 i2, .int .u32 j2], .agg #[.int .u16 i, .int .u32 j]] U.W fun e w' => e = .returned (.bool q) ∧ ∃ U' : ExtW W1, w' = U'.W := fun U => ext_of (aheadPR_is (w := U.W) (hid hq)) rfl
        have HP : Hid (prevOk (prevOf x.sus k) (i, j) = q) := hid (by rw [hpr]; exact hq)
        have HKC := hid hkc
        clear hx2 hpr hq hkc
        cases q
        case false =>
          go_wp2
          refine wp_region_ext hb (by kernel_rfl) (by kernel_rfl) ?_
          repeat (go_big_quiet_step (first | (with_reducible exact AH _) | (with_reducible exact MY _)))
          refine wpQuiet_nil ?_
          rintro _ ⟨⟨w9, hb9⟩, rfl⟩
          go_wp2
          go_ret
          exact ⟨by rw [ha.out, HST.out, HP.out]; rfl, HB1.out.trans (hb9.mono HB1.out.size)⟩
        case true =>
          go_wp2
          refine wp_region_ext hb (by kernel_rfl) (by kernel_rfl) ?_
          repeat (go_big_quiet_step (first | (with_reducible exact AH _) | (with_reducible exact MY _)))
          refine wpQuiet_nil ?_
          rintro _ ⟨⟨w9, hb9⟩, rfl⟩
          go_wp2
          go_roundw
          case rel => exact ⟨rfl, k + 1, by omega, by go_num, hid (ha.out.trans (by rw [HST.out, HP.out]; rfl)), hb9⟩
          case measure => simp [intOf]; omega
    · go_wp2
      go_ret
      exact ⟨by rw [ha.out, susAt_end (by rw [hn.out]; omega)]; rfl, HB1.out.trans (hb.mono HB1.out.size)⟩
end Go.Proofs.Ytbpfhclcjedkcaa

namespace Go.Proofs.Ytbpfhclcjedkcaa
open Go.RowKit
/-! ### msg.checkBeat -/
theorem max2_run (a b : Nat) (W : World) : (Builtin.max2 (.int .u64 a) (.int .u64 b)).run Try.prog W = .ok (.int .u64 (max a b : Nat)) W := by
  have e : (if (b : Int) > (a : Int) then (b : Int) else (a : Int)) = ((max a b : Nat) : Int) := by
    by_cases h : b > a
    · rw [if_pos (by omega)]; omega
    · rw [if_neg (by omega)]; omega
  show ((pure (.int .u64 (if (b : Int) > (a : Int) then (b : Int) else (a : Int))) : Sem Value)).run Try.prog W = _
  rw [e]; simp
theorem max4_run {a b c d m : Nat} (h : Hid (max (max (max a b) c) d = m)) (W : World) : (Builtin.max_ #[29, 29, 29, 29] 29 #[.int .u64 a, .int .u64 b, .int .u64 c, .int .u64 d]).run Try.prog W = .ok (.int .u64 m) W := by
  rw [← h.out]
  simp only [Builtin.max_, List.foldlM]
  simp [max2_run, Result.andThen]
def chkN (b : Bool) : Int := if b then 0 else 1
set_option maxRecDepth 100000 in
set_option maxHeartbeats 6400000 in
theorem checkBeat_any {x : BeatD} {a : Option Addr} {c n : Nat} {w : World} (hn : Hid (x.sus.length = n)) (hl : n ≤ 70368744177664) (hok : ∀ p ∈ x.sus, okP p) (hrow : PidRow w a x.sus) :
    Calls Try.prog 118 #[.agg #[.int .u64 x.v, .int .u64 x.ap, .int .u64 x.be, .int .u64 x.st, .slice a n c]] w fun e w' => e = .returned (.int .i64 (chkN (beatChk x))) ∧ Below w.heap.size w w' := by
  obtain ⟨W1, hW1⟩ : ∃ W1, w.alloc (.cells #[.int .u64 x.v, .int .u64 x.ap, .int .u64 x.be, .int .u64 x.st, .slice a n c] 54) = W1 := ⟨_, rfl⟩
  have hB1 : Below w.heap.size w W1 := by rw [← hW1]; exact (Below.refl _ _).alloc (Nat.le_refl _) _
  have hbx : BeatBox W1 w.heap.size x a n c := by rw [← hW1]; exact BeatBox.made w
  have hrow1 := hrow.ext hB1
  have HB1 := hid hB1
  have HOK := hid hok
  have HROW := hid hrow1
  have HBX := hid hbx
  have hlt0 := hbx.lt
  obtain ⟨c0, c1, c2, c3, c4⟩ := hbx
  clear hB1 hrow hrow1 hok
  obtain ⟨m, hm⟩ : ∃ m, max (max (max x.v x.ap) x.be) x.st = m := ⟨_, rfl⟩
  have MX := fun W => max4_run (hid hm) W
  by_cases b0 : 4611686018427387904 < m
  · have HNO : Hid (beatChk x = false) := hid (beatChk_no (by omega))
    have s0 : decide (4611686018427387904 < m) = true := by simpa using b0
    have u0 : decide ((4611686018427387904 : Int) < (m : Int)) = true := by simp; omega
    have y0 : decide ((m : Int) > 4611686018427387904) = true := by simp; omega
    clear b0 hm
    go_enter Try.func118, Try.ntmps118
    go_wp2
    go_ret
    exact ⟨by rw [HNO.out]; rfl, HB1.out⟩
  have s0 : decide (4611686018427387904 < m) = false := by simp; omega
  have u0 : decide ((4611686018427387904 : Int) < (m : Int)) = false := by simp; omega
  have y0 : decide ((m : Int) > 4611686018427387904) = false := by simp; omega
  by_cases b4 : 24 < n
  · have HNO : Hid (beatChk x = false) := hid (beatChk_no (by have := hn.out; omega))
    have s4 : decide (24 < n) = true := by simpa using b4
    have u4 : decide ((24 : Int) < (n : Int)) = true := by simp; omega
    have y4 : decide ((n : Int) > 24) = true := by simp; omega
    clear b0 b4 hm
    go_enter Try.func118, Try.ntmps118
    go_wp2
    go_ret
    exact ⟨by rw [HNO.out]; rfl, HB1.out⟩
  have s4 : decide (24 < n) = false := by simp; omega
  have u4 : decide ((24 : Int) < (n : Int)) = false := by simp; omega
  have y4 : decide ((n : Int) > 24) = false := by simp; omega
  have HYES : Hid (beatChk x = susAt x.sus 0) := hid (beatChk_yes (by have := hn.out; omega))
  have hn24 : n ≤ 24 := by omega
  clear b0 b4 hm
  go_enter Try.func118, Try.ntmps118
  go_wp2
  go_loopw [2, 24] (fun rs i wr => rs = .int .i64 0 ∧ ∃ k : Nat, k ≤ n ∧ i = .int .i64 k ∧ Hid (beatChk x = susAt x.sus k) ∧ Below W1.heap.size W1 wr) (fun _ i _ => n - (intOf i).toNat)
  case atStart => exact ⟨rfl, 0, Nat.zero_le _, rfl, HYES, Below.refl _ _⟩
  case round =>
    obtain ⟨rfl, k, hk, rfl, ha, hb⟩ := hrel
    by_cases hlt : k < n
    · have hlt' : k < x.sus.length := by rw [hn.out]; exact hlt
      obtain ⟨b, off, i, j, rfl, hx, d0, d1⟩ := HROW.out.at hb rfl hlt'
      have hst := susAt_step hlt' hx
      have hij : okP (i, j) := by rw [hx]; exact HOK.out _ (List.getElem_mem _)
      obtain ⟨m1, hm1⟩ : ∃ m, mayP (i, j) = m := ⟨_, rfl⟩
      rw [hm1] at hst
      have HST := hid hst
      have HX := hid hx
      have HIJ := hid hij
      have HM1 := hid hm1
      have hz := hb.size
      clear hst hx hij hm1 c0 c1 c2 c3
      obtain ⟨g, hg⟩ : ∃ g, wr.heap.size = g := ⟨_, rfl⟩
      go_upto_region 6 with fail
      obtain ⟨wq, hwq⟩ : ∃ wq, wr.alloc (.cells #[.int .u16 i, .int .u32 j] 26) = wq := ⟨_, rfl⟩
      have hb1q : Below W1.heap.size W1 wq := by rw [← hwq]; exact hb.alloc hb.size _
      have p0 : wq.cell? ⟨g, 0, none⟩ = some (.int .u16 i) := by rw [← hwq, ← hg]; simp
      have p1 : wq.cell? ⟨g, 1, none⟩ = some (.int .u32 j) := by rw [← hwq, ← hg]; simp
      rw [hwq]
      have hx0 := cell_extw p0
      have hx1 := cell_extw p1
      have x4 := cell_extw (HBX.out.ext hb1q HBX.out.lt).c4
      have hrq := HROW.out.ext hb1q
      have hbq : Below wq.heap.size wq wq := Below.refl _ _
      have MY : ∀ U : ExtW wq, Calls Try.prog 105 #[.agg #[.int .u16 i, .int .u32 j]] U.W fun e w' => e = .returned (.bool m1) ∧ ∃ U' : ExtW wq, w' = U'.W := fun U => ext_of (mayP_is (w := U.W) HM1 HIJ.out.2.2.1) rfl
      have HB1Q := hid hb1q
      clear hb1q p0 p1 d0 d1 hwq hg hb c4
      cases m1
      case false =>
        refine wp_region_ext hbq (by kernel_rfl) (by kernel_rfl) ?_
        repeat (go_big_quiet_step (with_reducible exact MY _))
        refine wpQuiet_nil ?_
        rintro _ ⟨⟨w9, hb9⟩, rfl⟩
        go_wp2
        go_ret
        exact ⟨by rw [ha.out, HST.out]; rfl, HB1.out.trans ((HB1Q.out.trans (hb9.mono HB1Q.out.size)).mono HB1.out.size)⟩
      case true =>
      by_cases hk0 : k = 0
      · have hk1 : decide (0 < (k : Int)) = false := by simp; omega
        have hk2 : decide (0 < k) = false := by simp; omega
        have hk3 : decide ((k : Int) > 0) = false := by simp; omega
        have HP : Hid (prevOk (prevOf x.sus k) (i, j) = true) := hid (by rw [hk0]; rfl)
        clear hk0
        refine wp_region_ext hbq (by kernel_rfl) (by kernel_rfl) ?_
        repeat (go_big_quiet_step (with_reducible exact MY _))
        refine wpQuiet_nil ?_
        rintro _ ⟨⟨w9, hb9⟩, rfl⟩
        go_wp2
        go_roundw
        case rel => exact ⟨rfl, k + 1, by omega, by go_num, hid (ha.out.trans (by rw [HST.out, HP.out]; rfl)), HB1Q.out.trans (hb9.mono HB1Q.out.size)⟩
        case measure => simp [intOf]; omega
      · have hk1 : decide (0 < (k : Int)) = true := by simp; omega
        have hk2 : decide (0 < k) = true := by simp; omega
        have hk3 : decide ((k : Int) > 0) = true := by simp; omega
        have hkl : k - 1 < x.sus.length := by omega
        have hkc : ((k - 1 : Nat) : Int) = (k : Int) - 1 := by omega
        obtain ⟨b2, off2, i2, j2, e2, hx2, -, -⟩ := hrq.at hbq rfl hkl
        cases e2
        obtain ⟨hg0, hg1⟩ := hrq.extw hkl hx2
        have hpr : prevOf x.sus k = some (i2, j2) := by simp [prevOf, hk0, hkl, hx2]
        have hij2 : okP (i2, j2) := by rw [hx2]; exact HOK.out _ (List.getElem_mem _)
        obtain ⟨q, hq⟩ : ∃ q, aheadP (i2, j2) (i, j) = q := ⟨_, rfl⟩
        have AH : ∀ U : ExtW wq, Calls Try.prog 195 #[.agg #[.int .u16 i2, .int .u32 j2], .agg #[.int .u16 i, .int .u32 j]] U.W fun e w' => e = .returned (.bool q) ∧ ∃ U' : ExtW wq, w' = U'.W := fun U => ext_of (aheadP_is (w := U.W) (hid hq) hij2 HIJ.out) rfl
        have HP : Hid (prevOk (prevOf x.sus k) (i, j) = q) := hid (by rw [hpr]; exact hq)
        have HKC := hid hkc
        clear hx2 hpr hq hkc hij2
        cases q
        case false =>
          refine wp_region_ext hbq (by kernel_rfl) (by kernel_rfl) ?_
          repeat (go_big_quiet_step (first | (with_reducible exact AH _) | (with_reducible exact MY _)))
          refine wpQuiet_nil ?_
          rintro _ ⟨⟨w9, hb9⟩, rfl⟩
          go_wp2
          go_ret
          exact ⟨by rw [ha.out, HST.out, HP.out]; rfl, HB1.out.trans ((HB1Q.out.trans (hb9.mono HB1Q.out.size)).mono HB1.out.size)⟩
        case true =>
          refine wp_region_ext hbq (by kernel_rfl) (by kernel_rfl) ?_
          repeat (go_big_quiet_step (first | (with_reducible exact AH _) | (with_reducible exact MY _)))
          refine wpQuiet_nil ?_
          rintro _ ⟨⟨w9, hb9⟩, rfl⟩
          go_wp2
          go_roundw
          case rel => exact ⟨rfl, k + 1, by omega, by go_num, hid (ha.out.trans (by rw [HST.out, HP.out]; rfl)), HB1Q.out.trans (hb9.mono HB1Q.out.size)⟩
          case measure => simp [intOf]; omega
    · go_wp2
      go_ret
      exact ⟨by rw [ha.out, susAt_end (by rw [hn.out]; omega)]; rfl, HB1.out.trans (hb.mono HB1.out.size)⟩
end Go.Proofs.Ytbpfhclcjedkcaa

namespace Go.Proofs.Ytbpfhclcjedkcaa
open Go.RowKit
/-! ### SameBeat, EncodeBeat, BeatForm -/
def sameBt (x y : BeatD) : Bool := decide (x.v = y.v) && (decide (x.ap = y.ap) && (decide (x.be = y.be) && (decide (x.st = y.st) && decide (x.sus = y.sus))))
theorem sameBt_self (x : BeatD) : sameBt x x = true := by unfold sameBt; simp
theorem PidRow.blk {w : World} {b off : Nat} {a : Option Addr} {l : List Pid} (h : PidRow w a l) (e : a = some ⟨b, off, none⟩) (hne : l ≠ []) : b < w.heap.size := by
  rcases h with h | ⟨b', off', e', hlt, -⟩
  · exact absurd h hne
  · rw [e] at e'; cases e'; exact hlt
theorem BeatBox.mut {w w' : World} {g s : Nat} {x : BeatD} {a : Option Addr} {n c : Nat} (h : BeatBox w g x a n c) (hm : Mut (fun k => k = s) w w') (hs : g ≠ s) : BeatBox w' g x a n c :=
  ⟨cell_mut h.c0 hm hs, cell_mut h.c1 hm hs, cell_mut h.c2 hm hs, cell_mut h.c3 hm hs, cell_mut h.c4 hm hs⟩
theorem index4 (a0 a1 a2 a3 m : Nat) (k : Nat) (h : [a0, a1, a2, a3][k]? = some m) (z : Int) (hz : z = (k : Int)) (W : World) : (Instr.index 169 (.agg #[.int .u64 a0, .int .u64 a1, .int .u64 a2, .int .u64 a3]) (.int .i64 z)).run Try.prog W = .ok (.int .u64 m) W := by
  have hs : ∀ W, (sizeOf 29).run Try.prog W = .ok 1 W := fun W => Try.sizeOf29 W
  subst hz
  match k, h with
  | 0, h => cases h; simp [Instr.index, run_underlying Try.underlying169, hs, Result.andThen, asIntOf, part]
  | 1, h => cases h; simp [Instr.index, run_underlying Try.underlying169, hs, Result.andThen, asIntOf, part]
  | 2, h => cases h; simp [Instr.index, run_underlying Try.underlying169, hs, Result.andThen, asIntOf, part]
  | 3, h => cases h; simp [Instr.index, run_underlying Try.underlying169, hs, Result.andThen, asIntOf, part]
theorem sameBeat_any {x y : BeatD} {a b : Option Addr} {c d n m : Nat} {w : World} (hn : Hid (x.sus.length = n)) (hm : Hid (y.sus.length = m)) (hnl : n ≤ 70368744177664) (hml : m ≤ 70368744177664) (hx : PidRow w a x.sus) (hy : PidRow w b y.sus) :
    Calls Try.prog 34 #[.agg #[.int .u64 x.v, .int .u64 x.ap, .int .u64 x.be, .int .u64 x.st, .slice a n c], .agg #[.int .u64 y.v, .int .u64 y.ap, .int .u64 y.be, .int .u64 y.st, .slice b m d]] w fun e w' => e = .returned (.bool (sameBt x y)) ∧ Below w.heap.size w w' := by
  obtain ⟨W1, hW1⟩ : ∃ W1, w.alloc (.cells #[.int .u64 x.v, .int .u64 x.ap, .int .u64 x.be, .int .u64 x.st, .slice a n c] 54) = W1 := ⟨_, rfl⟩
  have hB1 : Below w.heap.size w W1 := by rw [← hW1]; exact (Below.refl _ _).alloc (Nat.le_refl _) _
  have hb1 : BeatBox W1 w.heap.size x a n c := by rw [← hW1]; exact BeatBox.made w
  obtain ⟨W2, hW2⟩ : ∃ W2, W1.alloc (.cells #[.int .u64 y.v, .int .u64 y.ap, .int .u64 y.be, .int .u64 y.st, .slice b m d] 54) = W2 := ⟨_, rfl⟩
  have hB12 : Below W1.heap.size W1 W2 := by rw [← hW2]; exact (Below.refl _ _).alloc (Nat.le_refl _) _
  have hb2 : BeatBox W2 W1.heap.size y b m d := by rw [← hW2]; exact BeatBox.made W1
  have hb1 := hb1.ext hB12 hb1.lt
  have hB2 : Below w.heap.size w W2 := hB1.trans (hB12.mono hB1.size)
  obtain ⟨g1, hg1⟩ : ∃ g, W1.heap.size = g := ⟨_, rfl⟩
  rw [hg1] at hb2
  have SM := hid (sameR_any a b c d x.sus y.sus W2 (by rw [hn.out]; exact hnl) (by rw [hm.out]; exact hml) (hx.ext hB2) (hy.ext hB2))
  rw [hn.out, hm.out] at SM
  obtain ⟨r, hr⟩ : ∃ r, decide (x.sus = y.sus) = r := ⟨_, rfl⟩
  rw [hr] at SM
  have HR := hid hr
  have HB2 := hid hB2
  obtain ⟨c0, c1, c2, c3, c4⟩ := hb1
  obtain ⟨d0, d1, d2, d3, d4⟩ := hb2
  clear hB1 hB12 hB2 hr hx hy
  by_cases e0 : x.v = y.v
  case neg =>
    have t0 : ((x.v : Int) == (y.v : Int)) = false := by rw [beq_eq_false_iff_ne]; omega
    have HN : Hid (sameBt x y = false) := hid (by unfold sameBt; simp [e0])
    clear e0
    go_enter Try.func34, Try.ntmps34
    go_wp2
    go_ret
    exact ⟨by rw [HN.out]; rfl, HB2.out⟩
  have t0 : ((x.v : Int) == (y.v : Int)) = true := by rw [e0]; exact beq_self_eq_true _
  have E0 := hid e0
  clear e0
  by_cases e1 : x.ap = y.ap
  case neg =>
    have t1 : ((x.ap : Int) == (y.ap : Int)) = false := by rw [beq_eq_false_iff_ne]; omega
    have HN : Hid (sameBt x y = false) := hid (by unfold sameBt; simp [e1])
    clear e1
    go_enter Try.func34, Try.ntmps34
    go_wp2
    go_ret
    exact ⟨by rw [HN.out]; rfl, HB2.out⟩
  have t1 : ((x.ap : Int) == (y.ap : Int)) = true := by rw [e1]; exact beq_self_eq_true _
  have E1 := hid e1
  clear e1
  by_cases e2 : x.be = y.be
  case neg =>
    have t2 : ((x.be : Int) == (y.be : Int)) = false := by rw [beq_eq_false_iff_ne]; omega
    have HN : Hid (sameBt x y = false) := hid (by unfold sameBt; simp [e2])
    clear e2
    go_enter Try.func34, Try.ntmps34
    go_wp2
    go_ret
    exact ⟨by rw [HN.out]; rfl, HB2.out⟩
  have t2 : ((x.be : Int) == (y.be : Int)) = true := by rw [e2]; exact beq_self_eq_true _
  have E2 := hid e2
  clear e2
  by_cases e3 : x.st = y.st
  case neg =>
    have t3 : ((x.st : Int) == (y.st : Int)) = false := by rw [beq_eq_false_iff_ne]; omega
    have HN : Hid (sameBt x y = false) := hid (by unfold sameBt; simp [e3])
    clear e3
    go_enter Try.func34, Try.ntmps34
    go_wp2
    go_ret
    exact ⟨by rw [HN.out]; rfl, HB2.out⟩
  have t3 : ((x.st : Int) == (y.st : Int)) = true := by rw [e3]; exact beq_self_eq_true _
  have E3 := hid e3
  clear e3
  have HN : Hid (sameBt x y = r) := hid (by rw [← HR.out]; unfold sameBt; rw [decide_eq_true E0.out, decide_eq_true E1.out, decide_eq_true E2.out, decide_eq_true E3.out]; simp)
  go_enter Try.func34, Try.ntmps34
  go_wp2_with (go_at_call 66; (with_reducible refine SM.out.mono ?_); rintro e w3 ⟨rfl, hb3⟩)
  go_ret
  exact ⟨by rw [HN.out]; rfl, HB2.out.trans (hb3.mono HB2.out.size)⟩
/-! EncodeBeat -/
def numsF (x : BeatD) (k : Nat) : List Nat := ([x.v, x.ap, x.be, x.st].take k).flatMap short
theorem nums_4 (x : BeatD) : numsF x 4 ++ pidsF x.sus = beatF x := by
  unfold numsF beatF
  simp
theorem numsF_len {x : BeatD} (h : x.v < 18446744073709551616 ∧ x.ap < 18446744073709551616 ∧ x.be < 18446744073709551616 ∧ x.st < 18446744073709551616) {k : Nat} (hk : k ≤ 4) : (numsF x k).length ≤ 40 := by
  have h1 := short_len10 h.1
  have h2 := short_len10 h.2.1
  have h3 := short_len10 h.2.2.1
  have h4 := short_len10 h.2.2.2
  unfold numsF
  match k, hk with
  | 0, _ => simp
  | 1, _ => simp; omega
  | 2, _ => simp; omega
  | 3, _ => simp; omega
  | 4, _ => simp; omega
theorem beatF_len {x : BeatD} (h : x.v < 18446744073709551616 ∧ x.ap < 18446744073709551616 ∧ x.be < 18446744073709551616 ∧ x.st < 18446744073709551616) (hok : ∀ p ∈ x.sus, okP p) (hl : x.sus.length ≤ 1000) : (beatF x).length ≤ 30000 := by
  rw [← nums_4, List.length_append]
  have h1 := numsF_len h (k := 4) (by omega)
  have h2 := flat_pidF_len hok
  have h3 := short_len10 (n := x.sus.length) (by omega)
  unfold pidsF
  rw [List.length_append]
  omega
theorem beatF_byte {x : BeatD} : ∀ b ∈ beatF x, b < 256 := by
  intro b hb
  unfold beatF at hb
  rcases List.mem_append.1 hb with h | h
  · exact short_byteA _ b h
  rcases List.mem_append.1 h with h | h
  · exact short_byteA _ b h
  rcases List.mem_append.1 h with h | h
  · exact short_byteA _ b h
  rcases List.mem_append.1 h with h | h
  · exact short_byteA _ b h
  exact pidsF_byte b h
theorem nums_lt {x : BeatD} (h : beatChk x = true) : x.v < 18446744073709551616 ∧ x.ap < 18446744073709551616 ∧ x.be < 18446744073709551616 ∧ x.st < 18446744073709551616 := by
  unfold beatChk at h
  simp only [Bool.and_eq_true, decide_eq_true_eq] at h
  omega
theorem beat24 {x : BeatD} (h : beatChk x = true) : x.sus.length ≤ 24 := by
  unfold beatChk at h
  simp only [Bool.and_eq_true, decide_eq_true_eq] at h
  omega
set_option maxRecDepth 100000 in
set_option maxHeartbeats 6400000 in
theorem encodeBeat_any {x : BeatD} {a : Option Addr} {c n : Nat} {w : World} (hn : Hid (x.sus.length = n)) (hl : n ≤ 70368744177664) (hok : ∀ p ∈ x.sus, okP p) (hrow : PidRow w a x.sus) :
    Calls Try.prog 35 #[.agg #[.int .u64 x.v, .int .u64 x.ap, .int .u64 x.be, .int .u64 x.st, .slice a n c]] w fun e w' => ∃ v, e = .returned (.tuple #[v, .int .i64 (chkN (beatChk x))]) ∧ OwnB w' w.heap.size v (if beatChk x then beatF x else []) ∧ Below w.heap.size w w' := by
  obtain ⟨W1, hW1⟩ : ∃ W1, w.alloc (.cells #[.int .u64 x.v, .int .u64 x.ap, .int .u64 x.be, .int .u64 x.st, .slice a n c] 54) = W1 := ⟨_, rfl⟩
  have hB1 : Below w.heap.size w W1 := by rw [← hW1]; exact (Below.refl _ _).alloc (Nat.le_refl _) _
  have hbx : BeatBox W1 w.heap.size x a n c := by rw [← hW1]; exact BeatBox.made w
  have CK := hid (checkBeat_any (c := c) hn hl hok (hrow.ext hB1))
  have HB1 := hid hB1
  have HOK := hid hok
  have HROW := hid (hrow.ext hB1)
  have HBX := hid hbx
  obtain ⟨c0, c1, c2, c3, c4⟩ := hbx
  clear hB1 hrow hok
  cases hk : beatChk x
  case false =>
    rw [hk] at CK
    have e1 : chkN false = 1 := rfl
    rw [e1] at CK ⊢
    clear hk
    go_enter Try.func35, Try.ntmps35
    go_wp2_with (go_at_call 118; (with_reducible refine CK.out.mono ?_); rintro e w2 ⟨rfl, hb2⟩)
    go_ret2
    exact ⟨_, rfl, OwnB.nil _ _, HB1.out.trans (hb2.mono HB1.out.size)⟩
  case true =>
    rw [hk] at CK
    have e1 : chkN true = 0 := rfl
    rw [e1] at CK ⊢
    have HNL := hid (nums_lt hk)
    have HN24 : Hid (n ≤ 24) := hid (by have := beat24 hk; rw [hn.out] at this; exact this)
    clear hk
    go_enter Try.func35, Try.ntmps35
    go_wp2_with fail
    (with_reducible refine CK.out.mono ?_)
    rintro e w2 ⟨rfl, hb2⟩
    obtain ⟨w3, hw3⟩ : ∃ w3, w2.alloc (.cells #[.slice none 0 0] 146) = w3 := ⟨_, rfl⟩
    obtain ⟨s, hs⟩ : ∃ s, w2.heap.size = s := ⟨_, rfl⟩
    have hwr : WrIs w3 s (.slice none 0 0) [] := by rw [← hw3, ← hs]; exact WrIs.made w2 _
    have hb23 : Below w2.heap.size w2 w3 := by rw [← hw3]; exact (Below.refl _ _).alloc (Nat.le_refl _) _
    have hbx3 : BeatBox w3 w.heap.size x a n c := (HBX.out.ext hb2 HBX.out.lt).ext hb23 (by have := HBX.out.lt; have := hb2.size; omega)
    have hb13 : Below W1.heap.size W1 w3 := hb2.trans (hb23.mono hb2.size)
    have hss : w.heap.size < s ∧ W1.heap.size ≤ s := by rw [← hs]; have := HBX.out.lt; have := hb2.size; omega
    have HWR := hid hwr
    have HB13 := hid hb13
    have HBX3 := hid hbx3
    have HSS := hid hss
    have HB2 := hid hb2
    clear hwr hb13 hss hbx3 hb23 hb2 CK c0 c1 c2 c3 c4
    have hc2 := HBX.out.ext HB2.out HBX.out.lt
    go_upto_region 5 with fail
    obtain ⟨c0, c1, c2, c3, c4⟩ := HBX3.out
    clear hw3 hc2 hs
    go_wp2_with fail
    go_loopw [24] (fun i wr => ∃ k : Nat, k ≤ 4 ∧ i = .int .i64 k ∧ Hid (∃ v, WrIs wr s v (numsF x k)) ∧ Mut (fun q => q = s) w3 wr) (fun i _ => 4 - (intOf i).toNat)
    case atStart => exact ⟨0, by omega, rfl, hid ⟨_, HWR.out⟩, Mut.refl _ _⟩
    case round =>
      obtain ⟨k, hk, rfl, hv, hm⟩ := hrel
      obtain ⟨v, hwv⟩ := hv.out
      have key : ∀ (k : Nat) (m : Nat), [x.v, x.ap, x.be, x.st][k]? = some m → m < 18446744073709551616 ∧ numsF x k ++ short m = numsF x (k + 1) := by
        intro k m h
        have hl := HNL.out
        unfold numsF
        match k, h with
        | 0, h => cases h; exact ⟨hl.1, by simp⟩
        | 1, h => cases h; exact ⟨hl.2.1, by simp⟩
        | 2, h => cases h; exact ⟨hl.2.2.1, by simp⟩
        | 3, h => cases h; exact ⟨hl.2.2.2, by simp⟩
      have hlen := numsF_len HNL.out hk
      have W : Hid (∀ m, [x.v, x.ap, x.be, x.st][k]? = some m → Calls Try.prog 91 #[.pointer (some ⟨s, 0, none⟩), .int .u64 m] wr fun e w' => e = .returned (.tuple #[]) ∧ ∃ v', Wrote wr w' s v' (numsF x (k + 1))) := hid fun m h => by
        have hq := key k m h
        have := wNum_any m hwv (by omega) hq.1
        rw [hq.2] at this; exact this
      have HM := hid hm
      have HV := hv
      clear key hlen hwv hv hm v
      obtain rfl | rfl | rfl | rfl | rfl : k = 0 ∨ k = 1 ∨ k = 2 ∨ k = 3 ∨ k = 4 := by omega
      case inr.inr.inr.inr =>
        clear W
        have hb4 : BeatBox wr w.heap.size x a n c := HBX3.out.mut HM.out (by have := HSS.out.1; omega)
        have e4 := hb4.c4
        obtain ⟨v, hwv⟩ := HV.out
        have hfar : ∀ b off, a = some ⟨b, off, none⟩ → x.sus ≠ [] → b ≠ s := fun b off e hne => by
          have := HROW.out.blk e hne; have := HSS.out.2; omega
        have hrw := (HROW.out.ext HB13.out).mutT HM.out hfar
        have hl4 := numsF_len HNL.out (k := 4) (by omega)
        have WP0 := wPids_any (c := c) hwv (by omega) hn (by have := HN24.out; omega) HOK.out hrw hfar
        rw [nums_4] at WP0
        have WP := hid WP0
        clear WP0 hrw hwv hb4 hl4 v c0 c1 c2 c3 c4
        go_wp2_with fail
        (with_reducible refine WP.out.mono ?_)
        rintro e w6 ⟨rfl, v6, hw6⟩
        have DN := hid (wDone_any hw6.wr (by have := beatF_len HNL.out HOK.out (by rw [hn.out]; have := HN24.out; omega); omega))
        have HB6 := hid (below_mut (HB1.out.trans (HB13.out.mono HB1.out.size)) (HM.out.trans hw6.mt) (by have := HSS.out.1; omega))
        clear hw6 WP
        go_wp2_with fail
        (with_reducible refine DN.out.mono ?_)
        rintro e w7 ⟨v7, rfl, hown7, hb7⟩
        have HO7 := hid (hown7.mono HB6.out.size)
        have HB7 := hid (HB6.out.trans (hb7.mono HB6.out.size))
        clear hown7 hb7 DN
        go_wp2
        go_ret2
        exact ⟨v7, rfl, HO7.out, HB7.out⟩
      case inl =>
        have N := hid (W.out x.v rfl)
        have IX := index4 x.v x.ap x.be x.st x.v 0 rfl 0 rfl
        clear W
        go_wp2_with (go_at_call 91; (with_reducible refine N.out.mono ?_); rintro e w5 ⟨rfl, v5, hw5⟩)
        go_roundw
        case rel => exact ⟨1, by omega, by go_num, hid ⟨v5, hw5.wr⟩, HM.out.trans hw5.mt⟩
        case measure => simp [intOf]
      case inr.inl =>
        have N := hid (W.out x.ap rfl)
        have IX := index4 x.v x.ap x.be x.st x.ap 1 rfl 1 rfl
        clear W
        go_wp2_with (go_at_call 91; (with_reducible refine N.out.mono ?_); rintro e w5 ⟨rfl, v5, hw5⟩)
        go_roundw
        case rel => exact ⟨2, by omega, by go_num, hid ⟨v5, hw5.wr⟩, HM.out.trans hw5.mt⟩
        case measure => simp [intOf]
      case inr.inr.inl =>
        have N := hid (W.out x.be rfl)
        have IX := index4 x.v x.ap x.be x.st x.be 2 rfl 2 rfl
        clear W
        go_wp2_with (go_at_call 91; (with_reducible refine N.out.mono ?_); rintro e w5 ⟨rfl, v5, hw5⟩)
        go_roundw
        case rel => exact ⟨3, by omega, by go_num, hid ⟨v5, hw5.wr⟩, HM.out.trans hw5.mt⟩
        case measure => simp [intOf]
      case inr.inr.inr.inl =>
        have N := hid (W.out x.st rfl)
        have IX := index4 x.v x.ap x.be x.st x.st 3 rfl 3 rfl
        clear W
        go_wp2_with (go_at_call 91; (with_reducible refine N.out.mono ?_); rintro e w5 ⟨rfl, v5, hw5⟩)
        go_roundw
        case rel => exact ⟨4, by omega, by go_num, hid ⟨v5, hw5.wr⟩, HM.out.trans hw5.mt⟩
        case measure => simp [intOf]
end Go.Proofs.Ytbpfhclcjedkcaa

namespace Go.Proofs.Ytbpfhclcjedkcaa
open Go.RowKit
/-! ### BeatForm -/
theorem numR_rel {w0 W : World} {m N : Nat} {X : List Nat} (hb : Below w0.heap.size w0 W) (hX : Hid (short m = X)) (hN : Hid (X.length = N)) (hm : m < 18446744073709551616) :
    Calls Try.prog 107 #[.int .u64 m] W fun e w' => ∃ a c, e = .returned (.slice a N c) ∧ OwnB w' w0.heap.size (.slice a N c) X ∧ ByteRow w' a X ∧ Below W.heap.size W w' ∧ Below w0.heap.size w0 w' :=
  (numR_any m hm).mono fun e w' ⟨v, h1, h2, h3⟩ => by
    rw [hX.out] at h2
    have h4 := h2.mono hb.size
    obtain ⟨a, c, rfl, hr, -⟩ := h2.row
    rw [hN.out] at h1 h4
    exact ⟨a, c, h1, h4, hr, h3, hb.trans (h3.mono hb.size)⟩
theorem pidsR_rel {w0 W : World} {l : List Pid} {a : Option Addr} {c n N : Nat} {X : List Nat} (hb : Below w0.heap.size w0 W) (hX : Hid (pidsF l = X)) (hN : Hid (X.length = N)) (hn : Hid (l.length = n)) (hnl : n ≤ 1073741824) (hok : ∀ p ∈ l, okP p) (hrow : PidRow W a l) :
    Calls Try.prog 124 #[.slice a n c] W fun e w' => ∃ a c, e = .returned (.slice a N c) ∧ OwnB w' w0.heap.size (.slice a N c) X ∧ ByteRow w' a X ∧ Below W.heap.size W w' ∧ Below w0.heap.size w0 w' :=
  (pidsR_any hn hnl hok hrow).mono fun e w' ⟨v, h1, h2, h3⟩ => by
    rw [hX.out] at h2
    have h4 := h2.mono hb.size
    obtain ⟨a, c, rfl, hr, -⟩ := h2.row
    rw [hN.out] at h1 h4
    exact ⟨a, c, h1, h4, hr, h3, hb.trans (h3.mono hb.size)⟩
set_option maxRecDepth 100000 in
set_option maxHeartbeats 6400000 in
theorem beatForm_any {x : BeatD} {a : Option Addr} {c n : Nat} {w : World} (hn : Hid (x.sus.length = n)) (hl : n ≤ 1000) (hlt : x.v < 18446744073709551616 ∧ x.ap < 18446744073709551616 ∧ x.be < 18446744073709551616 ∧ x.st < 18446744073709551616) (hok : ∀ p ∈ x.sus, okP p) (hrow : PidRow w a x.sus) :
    Calls Try.prog 37 #[.agg #[.int .u64 x.v, .int .u64 x.ap, .int .u64 x.be, .int .u64 x.st, .slice a n c]] w fun e w' => ∃ v, e = .returned v ∧ OwnB w' w.heap.size v (beatF x) ∧ Below w.heap.size w w' := by
  obtain ⟨W1, hW1⟩ : ∃ W1, w.alloc (.cells #[.int .u64 x.v, .int .u64 x.ap, .int .u64 x.be, .int .u64 x.st, .slice a n c] 54) = W1 := ⟨_, rfl⟩
  have hB1 : Below w.heap.size w W1 := by rw [← hW1]; exact (Below.refl _ _).alloc (Nat.le_refl _) _
  have hbx : BeatBox W1 w.heap.size x a n c := by rw [← hW1]; exact BeatBox.made w
  have hrow1 := hrow.ext hB1
  obtain ⟨g, hg⟩ : ∃ g, w.heap.size = g := ⟨_, rfl⟩
  rw [hg] at hbx
  obtain ⟨X0, hX0⟩ : ∃ X, short x.v = X := ⟨_, rfl⟩
  obtain ⟨X1, hX1⟩ : ∃ X, short x.ap = X := ⟨_, rfl⟩
  obtain ⟨X2, hX2⟩ : ∃ X, short x.be = X := ⟨_, rfl⟩
  obtain ⟨X3, hX3⟩ : ∃ X, short x.st = X := ⟨_, rfl⟩
  obtain ⟨X4, hX4⟩ : ∃ X, pidsF x.sus = X := ⟨_, rfl⟩
  obtain ⟨N0, hN0⟩ : ∃ N, X0.length = N := ⟨_, rfl⟩
  obtain ⟨N1, hN1⟩ : ∃ N, X1.length = N := ⟨_, rfl⟩
  obtain ⟨N2, hN2⟩ : ∃ N, X2.length = N := ⟨_, rfl⟩
  obtain ⟨N3, hN3⟩ : ∃ N, X3.length = N := ⟨_, rfl⟩
  obtain ⟨N4, hN4⟩ : ∃ N, X4.length = N := ⟨_, rfl⟩
  have l0 : N0 ≤ 10 := by rw [← hN0, ← hX0]; exact short_len10 hlt.1
  have l1 : N1 ≤ 10 := by rw [← hN1, ← hX1]; exact short_len10 hlt.2.1
  have l2 : N2 ≤ 10 := by rw [← hN2, ← hX2]; exact short_len10 hlt.2.2.1
  have l3 : N3 ≤ 10 := by rw [← hN3, ← hX3]; exact short_len10 hlt.2.2.2
  have l4 : N4 ≤ 30000 := by
    rw [← hN4, ← hX4]
    have h2 := flat_pidF_len hok
    have h3 := short_len10 (n := x.sus.length) (by rw [hn.out]; omega)
    unfold pidsF
    rw [List.length_append]
    rw [hn.out] at h2 ⊢
    rw [hn.out] at h3
    omega
  have HX : Hid (∀ W, Below W1.heap.size W1 W → BeatBox W g x a n c) := hid fun W h => hbx.ext h hbx.lt
  have HLT := hid hlt
  have C0 : Hid (∀ W, Below W1.heap.size W1 W → _) := hid fun W h => numR_rel h (hid hX0) (hid hN0) HLT.out.1
  have C1 : Hid (∀ W, Below W1.heap.size W1 W → _) := hid fun W h => numR_rel h (hid hX1) (hid hN1) HLT.out.2.1
  have C2 : Hid (∀ W, Below W1.heap.size W1 W → _) := hid fun W h => numR_rel h (hid hX2) (hid hN2) HLT.out.2.2.1
  have C3 : Hid (∀ W, Below W1.heap.size W1 W → _) := hid fun W h => numR_rel h (hid hX3) (hid hN3) HLT.out.2.2.2
  have C4 : Hid (∀ W, Below W1.heap.size W1 W → _) := hid fun W h => pidsR_rel (c := c) h (hid hX4) (hid hN4) hn (by omega) hok (hrow1.ext h)
  have HF : Hid (X0 ++ X1 ++ X2 ++ X3 ++ X4 = beatF x) := hid (by rw [← hX0, ← hX1, ← hX2, ← hX3, ← hX4]; unfold beatF; simp)
  have HN0 := hid hN0
  have HN1 := hid hN1
  have HN2 := hid hN2
  have HN3 := hid hN3
  have HN4 := hid hN4
  have HG := hid hg
  have HB1 := hid hB1
  have H0 : Below W1.heap.size W1 W1.drew := (Below.refl _ _).drew
  have HS : Hid (∀ W, Below W1.heap.size W1 W → Below W1.heap.size W1 W ∧ W.cell? ⟨g, 0, none⟩ = some (.int .u64 x.v) ∧ W.cell? ⟨g, 1, none⟩ = some (.int .u64 x.ap)) := hid fun W h => ⟨h, (HX.out W h).c0, (HX.out W h).c1⟩
  clear hX0 hX1 hX2 hX3 hX4 hN0 hN1 hN2 hN3 hN4 hlt hrow hrow1 hok hB1 hbx
  go_enter Try.func37, Try.ntmps37
  go_wp2
  go_region_held3 (fun W => Below W1.heap.size W1 W ∧ W.cell? ⟨g, 0, none⟩ = some (.int .u64 x.v) ∧ W.cell? ⟨g, 1, none⟩ = some (.int .u64 x.ap)) (first | exact HS.out _ H0 | exact HS.out _ (by assumption)) (first
    | ((go_at_call 107; (with_reducible refine (C0.out _ (by exact H0)).mono ?_); rintro e w11 ⟨a11, c11, rfl, ho11, hr11, hbb11, hb11⟩))
    | ((go_at_call 107; (with_reducible refine (C1.out _ hb11).mono ?_); rintro e w12 ⟨a12, c12, rfl, ho12, hr12, hbb12, hb12⟩))
    | ((refine step_appendB (by rfl) (ho11.ext hbb12) hr12 HN1 (by rw [HN0.out]; omega) hb12.size rfl rfl rfl ?_; intro v13 w13 hown13 hg13; have hb13 : Below W1.heap.size W1 w13 := below_of_grown hb12 hg13 (ho11.ext hbb12) hb12.size (Nat.le_refl _))))
  obtain ⟨-, -, k2, -, -⟩ := HX.out _ hb13
  have HO13 := hid hown13
  have HB13 := hid hb13
  clear hown13 hb13 hg13 hb12 hbb12 hr12 ho12 hb11 hbb11 hr11 ho11 H0 HS C0 C1
  go_wp2_with fail
  (with_reducible refine (C2.out _ HB13.out).mono ?_)
  rintro e w14 ⟨a14, c14, rfl, ho14, hr14, hbb14, hb14⟩
  have HO14 := hid (HO13.out.ext hbb14)
  have HR14 := hid hr14
  have HB14 := hid hb14
  clear ho14 hr14 hbb14 hb14 k2 HO13 HB13 C2
  go_wp2_with (at_builtin; refine wpList_appendB HO14.out HR14.out HN2 (by rw [List.length_append, HN0.out, HN1.out]; omega) HB14.out.size rfl rfl rfl rfl ?_; intro v15 w15 hown15 hg15 hat15; have hb15 := below_of_grown HB14.out hg15 HO14.out HB14.out.size (Nat.le_refl _); have HO15 := hid hown15; have HB15 := hid hb15; obtain ⟨-, -, -, k3, -⟩ := HX.out _ hb15; clear hat15 hg15 hown15 hb15 HO14 HR14 HB14)
  (with_reducible refine (C3.out _ HB15.out).mono ?_)
  rintro e w16 ⟨a16, c16, rfl, ho16, hr16, hbb16, hb16⟩
  have HO16 := hid (HO15.out.ext hbb16)
  have HR16 := hid hr16
  have HB16 := hid hb16
  clear ho16 hr16 hbb16 hb16 k3 HO15 HB15 C3
  go_wp2_with (at_builtin; refine wpList_appendB HO16.out HR16.out HN3 (by simp only [List.length_append]; rw [HN0.out, HN1.out, HN2.out]; omega) HB16.out.size rfl rfl rfl rfl ?_; intro v17 w17 hown17 hg17 hat17; have hb17 := below_of_grown HB16.out hg17 HO16.out HB16.out.size (Nat.le_refl _); have HO17 := hid hown17; have HB17 := hid hb17; obtain ⟨-, -, -, -, k4⟩ := HX.out _ hb17; clear hat17 hg17 hown17 hb17 HO16 HR16 HB16)
  (with_reducible refine (C4.out _ HB17.out).mono ?_)
  rintro e w18 ⟨a18, c18, rfl, ho18, hr18, hbb18, hb18⟩
  have HO18 := hid (HO17.out.ext hbb18)
  have HR18 := hid hr18
  have HB18 := hid hb18
  clear ho18 hr18 hbb18 hb18 k4 HO17 HB17 C4
  go_wp2_with (at_builtin; refine wpList_appendB HO18.out HR18.out HN4 (by simp only [List.length_append]; rw [HN0.out, HN1.out, HN2.out, HN3.out]; omega) HB18.out.size rfl rfl rfl rfl ?_; intro v19 w19 hown19 hg19 hat19; have hb19 := below_of_grown HB18.out hg19 HO18.out HB18.out.size (Nat.le_refl _); have HO19 := hid hown19; have HB19 := hid hb19; clear hat19 hg19 hown19 hb19 HO18 HR18 HB18)
  go_ret
  have hO := HO19.out.mono HB1.out.size
  rw [HF.out] at hO
  exact ⟨_, rfl, hO, HB1.out.trans (HB19.out.mono HB1.out.size)⟩
end Go.Proofs.Ytbpfhclcjedkcaa

