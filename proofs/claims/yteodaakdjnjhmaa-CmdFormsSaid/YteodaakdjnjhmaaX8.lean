import Derived.Test.YteodaakdjnjhmaaX7
namespace Go.Proofs.Yteodaakdjnjhmaa
open Go.RowKit
theorem step_appendB {w : World} {o : Oper} {a : Go.Act} {K : Go.Act → World → Prop} {Q : Exit → Go.Act → World → Prop} {y : Nat → Option Bool} {s x : Operand} {base : Nat} {v : Value} {xs ys : List Nat} {ad : Option Addr} {n c : Nat} (hw : Region.wanted o y = true) (hown : OwnB w base v xs) (hy : ByteRow w ad ys) (hn : Hid (ys.length = n))
    (hlen : xs.length + n ≤ 1099511627776) (hbase : base ≤ w.heap.size)
    (ho : o.op = .call { callee := .builtin .append, args := #[s, x], argTypes := #[40, 40] }) (hs : a.eval s = v) (hx : a.eval x = .slice ad n c)
    (h : ∀ v' w', OwnB w' base v' (xs ++ ys) → w.grownBy w' v.ownBlock → K (a.put o.dst v') w') : if Region.wanted o y = true then Oper.wp Try.prog o a w K Q else K (a.put o.dst undef) w := by
  rw [if_pos hw]
  have hn := hn.out; subst hn
  obtain ⟨v', w', hr, h2, h3, h4⟩ := run_appendB hown (c := c) hy hlen hbase o.type
  exact Lib.wp_append_run w s x 40 40 ho _ _ hs hx v' w' hr (h v' w' h2 h3)
theorem shortR_is {w : World} {m N : Nat} {F : List Nat} (hF : Hid (short m = F)) (hN : Hid (F.length = N)) (hm : m < 18446744073709551616) :
    Calls Try.prog 145 #[.int .u64 m] w fun e w' => ∃ a' c', e = .returned (.slice a' N c') ∧ OwnB w' w.heap.size (.slice a' N c') F ∧ ByteRow w' a' F ∧ Below w.heap.size w w' := by
  refine (shortR_any m hm).mono ?_
  rintro e w' ⟨v, rfl, hown, hb⟩
  rw [hF.out] at hown
  obtain ⟨a', c', rfl, hr, -⟩ := hown.row
  rw [hN.out] at *
  exact ⟨a', c', rfl, hown, hr, hb⟩
set_option maxRecDepth 100000 in
set_option maxHeartbeats 1600000 in
theorem pidPutR_any {w : World} (x y : Nat) (hx : x < 65536) (hy : y < 4294967296) :
    Calls Try.prog 103 #[.agg #[.int .u16 x, .int .u32 y]] w fun e w' => ∃ v, e = .returned v ∧ OwnB w' w.heap.size v (short x ++ short y) ∧ Below w.heap.size w w' := by
  have hB : Below w.heap.size w (w.alloc (.cells #[.int .u16 x, .int .u32 y] 26)) := (Below.refl _ _).alloc (Nat.le_refl _) _
  have hlx := short_len10 (n := x) (by omega)
  have hly := short_len10 (n := y) (by omega)
  obtain ⟨X, hX⟩ : ∃ F, short x = F := ⟨_, rfl⟩
  obtain ⟨Y, hY⟩ : ∃ F, short y = F := ⟨_, rfl⟩
  obtain ⟨NX, hNX⟩ : ∃ N, X.length = N := ⟨_, rfl⟩
  obtain ⟨NY, hNY⟩ : ∃ N, Y.length = N := ⟨_, rfl⟩
  rw [hX] at hlx
  rw [hY] at hly
  have hlX : X.length ≤ 10 := hlx
  have hlY : NY ≤ 10 := by omega
  rw [hX, hY]
  have hc0 : (w.alloc (.cells #[.int .u16 x, .int .u32 y] 26)).cell? ⟨w.heap.size, 0, none⟩ = some (.int .u16 x) := by simp
  have hc1 : (w.alloc (.cells #[.int .u16 x, .int .u32 y] 26)).cell? ⟨w.heap.size, 1, none⟩ = some (.int .u32 y) := by simp
  have HX := hid hX
  have HY := hid hY
  have HNX := hid hNX
  have HNY := hid hNY
  clear hX hY hNX hNY hlx hly
  obtain ⟨w1, hw1⟩ : ∃ w1, w.alloc (.cells #[.int .u16 x, .int .u32 y] 26) = w1 := ⟨_, rfl⟩
  rw [hw1] at hB hc0 hc1
  have H0 : Below w1.heap.size w1 w1.drew := (Below.refl _ _).drew
  have HS : Hid (∀ W, Below w1.heap.size w1 W → Below w1.heap.size w1 W ∧ W.cell? ⟨w.heap.size, 0, none⟩ = some (.int .u16 x) ∧ W.cell? ⟨w.heap.size, 1, none⟩ = some (.int .u32 y)) := hid fun W h => ⟨h, cell_toB hc0 h, cell_toB hc1 h⟩
  have C1 : Hid (∀ W, Below w1.heap.size w1 W → Calls Try.prog 145 #[.int .u64 x] W fun e w' => ∃ a' c', e = .returned (.slice a' NX c') ∧ OwnB w' w1.heap.size (.slice a' NX c') X ∧ Below w1.heap.size w1 w') := hid fun W h => ((shortR_is HX HNX (by omega)).mono fun e w' ⟨a', c', h1, h2, _, h4⟩ => ⟨a', c', h1, h2.mono h.size, h.trans (h4.mono h.size)⟩)
  have C2 : Hid (∀ W, Below w1.heap.size w1 W → Calls Try.prog 145 #[.int .u64 y] W fun e w' => ∃ a' c', e = .returned (.slice a' NY c') ∧ ByteRow w' a' Y ∧ Below W.heap.size W w' ∧ Below w1.heap.size w1 w') := hid fun W h => ((shortR_is HY HNY (by omega)).mono fun e w' ⟨a', c', h1, _, h3, h4⟩ => ⟨a', c', h1, h3, h4, h.trans (h4.mono h.size)⟩)
  clear hc0 hc1
  have ew1 : IntKind.u64.wrap ((x : Nat) : Int) = ((x : Nat) : Int) := by rw [IntKind.wrap_u64]; omega
  have ew2 : IntKind.u64.wrap ((y : Nat) : Int) = ((y : Nat) : Int) := by rw [IntKind.wrap_u64]; omega
  have EW1 := hid ew1
  go_enter Try.func103, Try.ntmps103
  go_wp2
  go_region_held3 (fun W => Below w1.heap.size w1 W ∧ W.cell? ⟨w.heap.size, 0, none⟩ = some (.int .u16 x) ∧ W.cell? ⟨w.heap.size, 1, none⟩ = some (.int .u32 y)) (first | exact HS.out _ H0 | exact HS.out _ (by assumption)) (first
    | ((go_at_call 145; (with_reducible refine (C1.out _ (by exact H0)).mono ?_); rintro e w11 ⟨a11, c11, rfl, hown11, hb11⟩))
    | ((go_at_call 145; (with_reducible refine (C2.out _ hb11).mono ?_); rintro e w12 ⟨a12, c12, rfl, hrow12, hbb12, hb12⟩))
    | ((refine step_appendB (by rfl) (hown11.ext hbb12) hrow12 HNY (by clear ew1 ew2; omega) hb12.size rfl rfl rfl ?_; intro v13 w13 hown13 hg13; have hb13 : Below w1.heap.size w1 w13 := below_of_grown hb12 hg13 (hown11.ext hbb12) hb12.size (Nat.le_refl _))))
  all_goals (
    clear ew1 ew2
    go_wp2
    go_ret
    exact ⟨_, rfl, hown13.mono hB.size, hB.trans (hb13.mono hB.size)⟩)
theorem run_fromB {a : Option Addr} {n c k : Nat} (h : k ≤ n) (W : World) : (Instr.slice 40 (.slice a n c) (some (.int .i64 k)) none none).run Try.prog W = .ok (.slice (if c = k then a else a.map (·.add (k * 1))) (n - k) (c - k)) W := by
  have hs : ∀ W, (sizeOf 5).run Try.prog W = .ok 1 W := fun W => Try.sizeOf5 W
  simp [Instr.slice, run_underlying Try.underlying40, Instr.sliceBounds, run_sliceBound, hs, Result.andThen, h]
theorem ByteRow.cut {w : World} {a : Option Addr} {bs : List Nat} (h : ByteRow w a bs) {k c : Nat} (hc : bs.length ≤ c) : ByteRow w (if c = k then a else a.map (·.add (k * 1))) (bs.drop k) := by
  by_cases hk : k < bs.length
  · rw [if_neg (by omega)]
    rcases h with rfl | ⟨b, off, rfl, hb, hcell⟩
    · simp at hk
    · refine .inr ⟨b, off + k, by simp [addr_addB], hb, fun i hi => ?_⟩
      simp only [List.length_drop] at hi
      have := hcell (k + i) (by omega)
      rw [List.getElem_drop, show off + k + i = off + (k + i) by omega]
      exact this
  · rw [List.drop_eq_nil_of_le (by omega)]; exact .inl rfl
/-- the three results of a process's reading -/
def pidT (q : Pid × Nat × Nat) : Value := .tuple #[.agg #[.int .u16 q.1.1, .int .u32 q.1.2], .int .i64 q.2.1, .int .i64 q.2.2]

set_option maxRecDepth 100000 in
set_option maxHeartbeats 3200000 in
theorem pidGet_any {a : Option Addr} {c n : Nat} {bs : List Nat} {w : World} (hn : Hid (bs.length = n)) (hc : n ≤ c) (hl : n ≤ 70368744177664) (hby : ∀ b ∈ bs, b < 256) (hrow : ByteRow w a bs) :
    Calls Try.prog 163 #[.slice a n c] w fun e w' => e = .returned (pidT (getP bs)) ∧ Below w.heap.size w w' := by
  have hB : Below w.heap.size w (w.alloc (.cells #[.int .u16 0, .int .u32 0] 26)) := (Below.refl _ _).alloc (Nat.le_refl _) _
  have hr1 := hrow.ext hB
  obtain ⟨⟨x1, u1, e1⟩, hG1⟩ : ∃ q, getS bs = q := ⟨_, rfl⟩
  have HG1 := hid hG1
  have hok1 := getFrom_ok bs 0 0 (by decide) (by decide)
  rw [show getFrom 0 0 bs = getS bs from rfl, hG1] at hok1
  simp only at hok1
  have HBY := hid hby
  by_cases he1 : e1 = 0
  · subst he1
    obtain ⟨q1, q2, q3, q4⟩ := hok1 rfl
    have hu1 : u1 ≤ n := by rw [← hn.out]; omega
    obtain ⟨A1, hA1⟩ : ∃ A, (if c = u1 then a else a.map (·.add (u1 * 1))) = A := ⟨_, rfl⟩
    have hrun := fun W => run_fromB (a := a) (c := c) hu1 W
    have hr2 := hr1.cut (k := u1) (c := c) (by rw [hn.out]; exact hc)
    rw [hA1] at hr2
    simp only [hA1] at hrun
    obtain ⟨n2, hn2⟩ : ∃ n2, n - u1 = n2 := ⟨_, rfl⟩
    obtain ⟨c2, hc2⟩ : ∃ c2, c - u1 = c2 := ⟨_, rfl⟩
    simp only [hn2, hc2] at hrun
    have hnd : Hid ((bs.drop u1).length = n2) := hid (by rw [List.length_drop, hn.out, hn2])
    have hby2 : ∀ b ∈ bs.drop u1, b < 256 := fun b hb => HBY.out b (List.mem_of_mem_drop hb)
    obtain ⟨⟨x2, u2, e2⟩, hG2⟩ : ∃ q, getS (bs.drop u1) = q := ⟨_, rfl⟩
    have HG2 := hid hG2
    have hok2 := getFrom_ok (bs.drop u1) 0 0 (by decide) (by decide)
    rw [show getFrom 0 0 (bs.drop u1) = getS (bs.drop u1) from rfl, hG2] at hok2
    simp only at hok2
    have hn2l : n2 ≤ 70368744177664 := by omega
    have HBY2 := hid hby2
    have HN2 := hid hn2
    clear hA1 hn2 hc2 hby2 hG1 hG2 hok1 hby
    by_cases he2 : e2 = 0
    · subst he2
      obtain ⟨p1, p2, p3, p4⟩ := hok2 rfl
      rw [hnd.out] at p3
      clear hok2
      by_cases hb1 : 65535 < x1
      · have HE : Hid (getP bs = ((0, 0), 0, 5)) := hid (by unfold getP; simp only [HG1.out, HG2.out]; rw [if_neg (by simp), if_neg (by simp), if_pos (.inl hb1)])
        have t1 : decide (65535 < x1) = true := by simpa using hb1
        have t1' : decide ((65535 : Int) < x1) = true := by simp; omega
        go_enter Try.func163, Try.ntmps163
        go_wp2_with (first
          | (go_at_call 162; (with_reducible refine (getShort_is HG1 hn hl HBY.out hr1).mono ?_); rintro e w' ⟨rfl, rfl⟩)
          | (go_at_call 162; (with_reducible refine (getShort_is HG2 hnd hn2l HBY2.out hr2).mono ?_); rintro e w' ⟨rfl, rfl⟩))
        exact bodyPost_ret (v := .tuple #[.agg #[.int .u16 0, .int .u32 0], .int .i64 0, .int .i64 5]) (by simp [results, Try.results163, go_sem]) rfl ⟨by rw [HE.out]; rfl, (Below.refl _ _).alloc (Nat.le_refl _) _⟩
      · have t1 : decide (65535 < x1) = false := by simpa using hb1
        have t1' : decide ((65535 : Int) < x1) = false := by simp; omega
        by_cases hb2 : 4294967295 < x2
        · have HE : Hid (getP bs = ((0, 0), 0, 5)) := hid (by unfold getP; simp only [HG1.out, HG2.out]; rw [if_neg (by simp), if_neg (by simp), if_pos (.inr hb2)])
          have t2 : decide (4294967295 < x2) = true := by simpa using hb2
          have t2' : decide ((4294967295 : Int) < x2) = true := by simp; omega
          go_enter Try.func163, Try.ntmps163
          go_wp2_with (first
            | (go_at_call 162; (with_reducible refine (getShort_is HG1 hn hl HBY.out hr1).mono ?_); rintro e w' ⟨rfl, rfl⟩)
            | (go_at_call 162; (with_reducible refine (getShort_is HG2 hnd hn2l HBY2.out hr2).mono ?_); rintro e w' ⟨rfl, rfl⟩))
          exact bodyPost_ret (v := .tuple #[.agg #[.int .u16 0, .int .u32 0], .int .i64 0, .int .i64 5]) (by simp [results, Try.results163, go_sem]) rfl ⟨by rw [HE.out]; rfl, (Below.refl _ _).alloc (Nat.le_refl _) _⟩
        · have t2 : decide (4294967295 < x2) = false := by simpa using hb2
          have t2' : decide ((4294967295 : Int) < x2) = false := by simp; omega
          have HE : Hid (getP bs = ((((x1 : Nat) : Int), ((x2 : Nat) : Int)), u1 + u2, 0)) := hid (by unfold getP; simp only [HG1.out, HG2.out]; rw [if_neg (by simp), if_neg (by simp), if_neg (by omega)])
          have m1 : (x1 : Int) % 65536 = x1 := by omega
          have m2 : (x2 : Int) % 4294967296 = x2 := by omega
          go_enter Try.func163, Try.ntmps163
          go_wp2_with (first
            | (go_at_call 162; (with_reducible refine (getShort_is HG1 hn hl HBY.out hr1).mono ?_); rintro e w' ⟨rfl, rfl⟩)
            | (go_at_call 162; (with_reducible refine (getShort_is HG2 hnd hn2l HBY2.out hr2).mono ?_); rintro e w' ⟨rfl, rfl⟩))
          exact bodyPost_ret (v := .tuple #[.agg #[.int .u16 (x1 : Nat), .int .u32 (x2 : Nat)], .int .i64 ((u1 : Int) + (u2 : Int)), .int .i64 0]) (by simp [results, Try.results163, go_sem]) rfl ⟨by rw [HE.out]; rfl, (Below.refl _ _).alloc (Nat.le_refl _) _⟩
    · have HE : Hid (getP bs = ((0, 0), 0, e2)) := hid (by unfold getP; simp only [HG1.out, HG2.out]; rw [if_neg (by simp), if_pos he2])
      have t1 : decide (e2 = 0) = false := by simpa using he2
      have t2 : decide ((e2 : Int) = 0) = false := by simp; omega
      have t3 : ((e2 : Int) == 0) = false := by simp; omega
      have t4 : ((e2 : Int) != 0) = true := by simp; omega
      clear hok2
      go_enter Try.func163, Try.ntmps163
      go_wp2_with (first
        | (go_at_call 162; (with_reducible refine (getShort_is HG1 hn hl HBY.out hr1).mono ?_); rintro e w' ⟨rfl, rfl⟩)
        | (go_at_call 162; (with_reducible refine (getShort_is HG2 hnd hn2l HBY2.out hr2).mono ?_); rintro e w' ⟨rfl, rfl⟩))
      exact bodyPost_ret (v := .tuple #[.agg #[.int .u16 0, .int .u32 0], .int .i64 0, .int .i64 (e2 : Nat)]) (by simp [results, Try.results163, go_sem]) rfl ⟨by rw [HE.out]; rfl, (Below.refl _ _).alloc (Nat.le_refl _) _⟩
  · have HE : Hid (getP bs = ((0, 0), 0, e1)) := hid (by unfold getP; simp only [HG1.out]; rw [if_pos he1])
    have t1 : decide (e1 = 0) = false := by simpa using he1
    have t2 : decide ((e1 : Int) = 0) = false := by simp; omega
    have t3 : ((e1 : Int) == 0) = false := by simp; omega
    have t4 : ((e1 : Int) != 0) = true := by simp; omega
    clear hok1 hG1 hby
    go_enter Try.func163, Try.ntmps163
    go_wp2_with (go_at_call 162; (with_reducible refine (getShort_is HG1 hn hl HBY.out hr1).mono ?_); rintro e w' ⟨rfl, rfl⟩)
    exact bodyPost_ret (v := .tuple #[.agg #[.int .u16 0, .int .u32 0], .int .i64 0, .int .i64 (e1 : Nat)]) (by simp [results, Try.results163, go_sem]) rfl ⟨by rw [HE.out]; rfl, (Below.refl _ _).alloc (Nat.le_refl _) _⟩

set_option maxRecDepth 100000 in
set_option maxHeartbeats 3200000 in
theorem pidGetR_any {a : Option Addr} {c n : Nat} {bs : List Nat} {w : World} (hn : Hid (bs.length = n)) (hc : n ≤ c) (hl : n ≤ 70368744177664) (hby : ∀ b ∈ bs, b < 256) (hrow : ByteRow w a bs) :
    Calls Try.prog 150 #[.slice a n c] w fun e w' => e = .returned (pidT (getP bs)) ∧ Below w.heap.size w w' := by
  have hB : Below w.heap.size w (w.alloc (.cells #[.int .u16 0, .int .u32 0] 26)) := (Below.refl _ _).alloc (Nat.le_refl _) _
  have hr1 := hrow.ext hB
  obtain ⟨⟨x1, u1, e1⟩, hG1⟩ : ∃ q, getS bs = q := ⟨_, rfl⟩
  have HG1 := hid hG1
  have hok1 := getFrom_ok bs 0 0 (by decide) (by decide)
  rw [show getFrom 0 0 bs = getS bs from rfl, hG1] at hok1
  simp only at hok1
  have HBY := hid hby
  by_cases he1 : e1 = 0
  · subst he1
    obtain ⟨q1, q2, q3, q4⟩ := hok1 rfl
    have hu1 : u1 ≤ n := by rw [← hn.out]; omega
    obtain ⟨A1, hA1⟩ : ∃ A, (if c = u1 then a else a.map (·.add (u1 * 1))) = A := ⟨_, rfl⟩
    have hrun := fun W => run_fromB (a := a) (c := c) hu1 W
    have hr2 := hr1.cut (k := u1) (c := c) (by rw [hn.out]; exact hc)
    rw [hA1] at hr2
    simp only [hA1] at hrun
    obtain ⟨n2, hn2⟩ : ∃ n2, n - u1 = n2 := ⟨_, rfl⟩
    obtain ⟨c2, hc2⟩ : ∃ c2, c - u1 = c2 := ⟨_, rfl⟩
    simp only [hn2, hc2] at hrun
    have hnd : Hid ((bs.drop u1).length = n2) := hid (by rw [List.length_drop, hn.out, hn2])
    have hby2 : ∀ b ∈ bs.drop u1, b < 256 := fun b hb => HBY.out b (List.mem_of_mem_drop hb)
    obtain ⟨⟨x2, u2, e2⟩, hG2⟩ : ∃ q, getS (bs.drop u1) = q := ⟨_, rfl⟩
    have HG2 := hid hG2
    have hok2 := getFrom_ok (bs.drop u1) 0 0 (by decide) (by decide)
    rw [show getFrom 0 0 (bs.drop u1) = getS (bs.drop u1) from rfl, hG2] at hok2
    simp only at hok2
    have hn2l : n2 ≤ 70368744177664 := by omega
    have HBY2 := hid hby2
    have HN2 := hid hn2
    clear hA1 hn2 hc2 hby2 hG1 hG2 hok1 hby
    by_cases he2 : e2 = 0
    · subst he2
      obtain ⟨p1, p2, p3, p4⟩ := hok2 rfl
      rw [hnd.out] at p3
      clear hok2
      by_cases hb1 : 65535 < x1
      · have HE : Hid (getP bs = ((0, 0), 0, 5)) := hid (by unfold getP; simp only [HG1.out, HG2.out]; rw [if_neg (by simp), if_neg (by simp), if_pos (.inl hb1)])
        have t1 : decide (65535 < x1) = true := by simpa using hb1
        have t1' : decide ((65535 : Int) < x1) = true := by simp; omega
        go_enter Try.func150, Try.ntmps150
        go_wp2_with (first
          | (go_at_call 149; (with_reducible refine (getShortR_is HG1 hn hl HBY.out hr1).mono ?_); rintro e w' ⟨rfl, rfl⟩)
          | (go_at_call 149; (with_reducible refine (getShortR_is HG2 hnd hn2l HBY2.out hr2).mono ?_); rintro e w' ⟨rfl, rfl⟩))
        exact bodyPost_ret (v := .tuple #[.agg #[.int .u16 0, .int .u32 0], .int .i64 0, .int .i64 5]) (by simp [results, Try.results150, go_sem]) rfl ⟨by rw [HE.out]; rfl, (Below.refl _ _).alloc (Nat.le_refl _) _⟩
      · have t1 : decide (65535 < x1) = false := by simpa using hb1
        have t1' : decide ((65535 : Int) < x1) = false := by simp; omega
        by_cases hb2 : 4294967295 < x2
        · have HE : Hid (getP bs = ((0, 0), 0, 5)) := hid (by unfold getP; simp only [HG1.out, HG2.out]; rw [if_neg (by simp), if_neg (by simp), if_pos (.inr hb2)])
          have t2 : decide (4294967295 < x2) = true := by simpa using hb2
          have t2' : decide ((4294967295 : Int) < x2) = true := by simp; omega
          go_enter Try.func150, Try.ntmps150
          go_wp2_with (first
            | (go_at_call 149; (with_reducible refine (getShortR_is HG1 hn hl HBY.out hr1).mono ?_); rintro e w' ⟨rfl, rfl⟩)
            | (go_at_call 149; (with_reducible refine (getShortR_is HG2 hnd hn2l HBY2.out hr2).mono ?_); rintro e w' ⟨rfl, rfl⟩))
          exact bodyPost_ret (v := .tuple #[.agg #[.int .u16 0, .int .u32 0], .int .i64 0, .int .i64 5]) (by simp [results, Try.results150, go_sem]) rfl ⟨by rw [HE.out]; rfl, (Below.refl _ _).alloc (Nat.le_refl _) _⟩
        · have t2 : decide (4294967295 < x2) = false := by simpa using hb2
          have t2' : decide ((4294967295 : Int) < x2) = false := by simp; omega
          have HE : Hid (getP bs = ((((x1 : Nat) : Int), ((x2 : Nat) : Int)), u1 + u2, 0)) := hid (by unfold getP; simp only [HG1.out, HG2.out]; rw [if_neg (by simp), if_neg (by simp), if_neg (by omega)])
          have m1 : (x1 : Int) % 65536 = x1 := by omega
          have m2 : (x2 : Int) % 4294967296 = x2 := by omega
          go_enter Try.func150, Try.ntmps150
          go_wp2_with (first
            | (go_at_call 149; (with_reducible refine (getShortR_is HG1 hn hl HBY.out hr1).mono ?_); rintro e w' ⟨rfl, rfl⟩)
            | (go_at_call 149; (with_reducible refine (getShortR_is HG2 hnd hn2l HBY2.out hr2).mono ?_); rintro e w' ⟨rfl, rfl⟩))
          exact bodyPost_ret (v := .tuple #[.agg #[.int .u16 (x1 : Nat), .int .u32 (x2 : Nat)], .int .i64 ((u1 : Int) + (u2 : Int)), .int .i64 0]) (by simp [results, Try.results150, go_sem]) rfl ⟨by rw [HE.out]; rfl, (Below.refl _ _).alloc (Nat.le_refl _) _⟩
    · have HE : Hid (getP bs = ((0, 0), 0, e2)) := hid (by unfold getP; simp only [HG1.out, HG2.out]; rw [if_neg (by simp), if_pos he2])
      have t1 : decide (e2 = 0) = false := by simpa using he2
      have t2 : decide ((e2 : Int) = 0) = false := by simp; omega
      have t3 : ((e2 : Int) == 0) = false := by simp; omega
      have t4 : ((e2 : Int) != 0) = true := by simp; omega
      clear hok2
      go_enter Try.func150, Try.ntmps150
      go_wp2_with (first
        | (go_at_call 149; (with_reducible refine (getShortR_is HG1 hn hl HBY.out hr1).mono ?_); rintro e w' ⟨rfl, rfl⟩)
        | (go_at_call 149; (with_reducible refine (getShortR_is HG2 hnd hn2l HBY2.out hr2).mono ?_); rintro e w' ⟨rfl, rfl⟩))
      exact bodyPost_ret (v := .tuple #[.agg #[.int .u16 0, .int .u32 0], .int .i64 0, .int .i64 (e2 : Nat)]) (by simp [results, Try.results150, go_sem]) rfl ⟨by rw [HE.out]; rfl, (Below.refl _ _).alloc (Nat.le_refl _) _⟩
  · have HE : Hid (getP bs = ((0, 0), 0, e1)) := hid (by unfold getP; simp only [HG1.out]; rw [if_pos he1])
    have t1 : decide (e1 = 0) = false := by simpa using he1
    have t2 : decide ((e1 : Int) = 0) = false := by simp; omega
    have t3 : ((e1 : Int) == 0) = false := by simp; omega
    have t4 : ((e1 : Int) != 0) = true := by simp; omega
    clear hok1 hG1 hby
    go_enter Try.func150, Try.ntmps150
    go_wp2_with (go_at_call 149; (with_reducible refine (getShortR_is HG1 hn hl HBY.out hr1).mono ?_); rintro e w' ⟨rfl, rfl⟩)
    exact bodyPost_ret (v := .tuple #[.agg #[.int .u16 0, .int .u32 0], .int .i64 0, .int .i64 (e1 : Nat)]) (by simp [results, Try.results150, go_sem]) rfl ⟨by rw [HE.out]; rfl, (Below.refl _ _).alloc (Nat.le_refl _) _⟩
end Go.Proofs.Yteodaakdjnjhmaa
