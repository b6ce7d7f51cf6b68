/- Parts of the proof: X7 X8 X17 X5 X6. -/
import Derived.Test.YtbpfhclcjedkcaaR2
import Derived.Test.YtbpfhclcjedkcaaSm5
namespace Go.Proofs.Ytbpfhclcjedkcaa
open Go.RowKit
theorem getShort_is {a : Option Addr} {c n : Nat} {bs : List Nat} {w : World} {x u e : Nat} (h : Hid (getS bs = (x, u, e))) (hn : Hid (bs.length = n)) (hl : n ≤ 70368744177664) (hby : ∀ b ∈ bs, b < 256) (hrow : ByteRow w a bs) :
    Calls Try.prog 230 #[.slice a n c] w fun e' w' => e' = .returned (.tuple #[.int .u64 x, .int .i64 u, .int .i64 e]) ∧ w = w' := by
  have := getShort_any (c := c) (w := w) hn hl hby hrow
  rw [h.out] at this; exact this
theorem getShortR_is {a : Option Addr} {c n : Nat} {bs : List Nat} {w : World} {x u e : Nat} (h : Hid (getS bs = (x, u, e))) (hn : Hid (bs.length = n)) (hl : n ≤ 70368744177664) (hby : ∀ b ∈ bs, b < 256) (hrow : ByteRow w a bs) :
    Calls Try.prog 196 #[.slice a n c] w fun e' w' => e' = .returned (.tuple #[.int .u64 x, .int .i64 u, .int .i64 e]) ∧ w = w' := by
  have := getShortR_any (c := c) (w := w) hn hl hby hrow
  rw [h.out] at this; exact this
theorem putShort_is {a : Option Addr} {c n : Nat} {bs F : List Nat} {w : World} {m : Nat} (hF : Hid (bs ++ short m = F)) (hn : Hid (bs.length = n)) (hl : n ≤ 274877906944) (hm : m < 18446744073709551616) (hrow : ByteRow w a bs) :
    Calls Try.prog 181 #[.slice a n c, .int .u64 m] w fun e w' => ∃ a' c', e = .returned (.slice a' F.length c') ∧ OwnB w' w.heap.size (.slice a' F.length c') F ∧ ByteRow w' a' F ∧ Below w.heap.size w w' := by
  refine (putShort_any (c := c) m hn hl hm hrow).mono ?_
  rintro e w' ⟨v, rfl, hown, hb⟩
  rw [hF.out] at hown
  obtain ⟨a', c', rfl, hr, -⟩ := hown.row
  exact ⟨a', c', rfl, hown, hr, hb⟩
theorem relB {w w0 : World} {K : Nat} {args : Array Value} {Q : Ending → World → Prop} (hb : Below w0.heap.size w0 w) (h : Calls Try.prog K args w fun e w' => Q e w' ∧ Below w.heap.size w w') : Calls Try.prog K args w fun e w' => Q e w' ∧ Below w0.heap.size w0 w' :=
  h.mono fun _ _ ⟨h1, h2⟩ => ⟨h1, hb.trans (h2.mono hb.size)⟩
set_option maxRecDepth 100000 in
set_option maxHeartbeats 1600000 in
theorem pidPut_any {a : Option Addr} {c n : Nat} {bs : List Nat} {w : World} (x y : Nat) (hn : Hid (bs.length = n)) (hl : n ≤ 137438953472) (hx : x < 65536) (hy : y < 4294967296) (hrow : ByteRow w a bs) :
    Calls Try.prog 182 #[.slice a n c, .agg #[.int .u16 x, .int .u32 y]] w fun e w' => ∃ v, e = .returned v ∧ OwnB w' w.heap.size v (bs ++ (short x ++ short y)) ∧ Below w.heap.size w w' := by
  have hB : Below w.heap.size w (w.alloc (.cells #[.int .u16 x, .int .u32 y] 26)) := (Below.refl _ _).alloc (Nat.le_refl _) _
  have hr1 := hrow.ext hB
  have hlx := short_len10 (n := x) (by omega)
  obtain ⟨F, hF⟩ : ∃ F, bs ++ short x = F := ⟨_, rfl⟩
  obtain ⟨NF, hNF⟩ : ∃ NF, F.length = NF := ⟨_, rfl⟩
  have hNFl : NF ≤ n + 10 := by rw [← hNF, ← hF, List.length_append, hn.out]; omega
  have HF2 : Hid (bs ++ (short x ++ short y) = F ++ short y) := hid (by rw [← hF, List.append_assoc])
  have hc0 : (w.alloc (.cells #[.int .u16 x, .int .u32 y] 26)).cell? ⟨w.heap.size, 0, none⟩ = some (.int .u16 x) := by simp
  have hc1 : (w.alloc (.cells #[.int .u16 x, .int .u32 y] 26)).cell? ⟨w.heap.size, 1, none⟩ = some (.int .u32 y) := by simp
  have HF := hid hF
  have HNF := hid hNF
  clear hF hNF
  obtain ⟨w1, hw1⟩ : ∃ w1, w.alloc (.cells #[.int .u16 x, .int .u32 y] 26) = w1 := ⟨_, rfl⟩
  rw [hw1] at hB hr1 hc0 hc1
  have H0 : Below w1.heap.size w1 w1.drew := (Below.refl _ _).drew
  have HS : Hid (∀ W, Below w1.heap.size w1 W → Below w1.heap.size w1 W ∧ W.cell? ⟨w.heap.size, 0, none⟩ = some (.int .u16 x) ∧ W.cell? ⟨w.heap.size, 1, none⟩ = some (.int .u32 y)) := hid fun W h => ⟨h, cell_toB hc0 h, cell_toB hc1 h⟩
  have C1 : Hid (∀ W, Below w1.heap.size w1 W → Calls Try.prog 181 #[.slice a n c, .int .u64 x] W fun e w' => ∃ a' c', e = .returned (.slice a' NF c') ∧ ByteRow w' a' F ∧ Below w1.heap.size w1 w') := hid fun W h => ((putShort_is HF hn (by omega) (by omega) (hr1.ext h)).mono fun e w' ⟨a', c', h1, _, h3, h4⟩ => ⟨a', c', by rw [← HNF.out]; exact h1, h3, h.trans (h4.mono h.size)⟩)
  have C2 : Hid (∀ W a' c', Below w1.heap.size w1 W → ByteRow W a' F → Calls Try.prog 181 #[.slice a' NF c', .int .u64 y] W fun e w' => ∃ v, e = .returned v ∧ OwnB w' w1.heap.size v (F ++ short y) ∧ Below w1.heap.size w1 w') := hid fun W a' c' h hr => ((putShort_any y HNF (by omega) (by omega) hr).mono fun e w' ⟨v, h1, h3, h4⟩ => ⟨v, h1, h3.mono h.size, h.trans (h4.mono h.size)⟩)
  clear hr1 hc0 hc1 hrow
  have ew1 : IntKind.u64.wrap ((x : Nat) : Int) = ((x : Nat) : Int) := by rw [IntKind.wrap_u64]; omega
  have ew2 : IntKind.u64.wrap ((y : Nat) : Int) = ((y : Nat) : Int) := by rw [IntKind.wrap_u64]; omega
  go_enter Try.func182, Try.ntmps182
  go_wp2
  go_region_held3 (fun W => Below w1.heap.size w1 W ∧ W.cell? ⟨w.heap.size, 0, none⟩ = some (.int .u16 x) ∧ W.cell? ⟨w.heap.size, 1, none⟩ = some (.int .u32 y)) (first | exact HS.out _ H0 | exact HS.out _ (by assumption)) (first
    | ((go_at_call 181; (with_reducible refine (C1.out _ (by first | exact H0 | assumption)).mono ?_); rintro e w11 ⟨a11, c11, rfl, hrow11, hb11⟩))
    | ((go_at_call 181; (with_reducible refine (C2.out _ _ _ (by assumption) (by assumption)).mono ?_); rintro e w12 ⟨v12, rfl, hown12, hb12⟩)))
  all_goals (
    clear ew1 ew2
    go_wp2
    go_ret
    exact ⟨_, rfl, by rw [HF2.out]; exact hown12.mono hB.size, hB.trans (hb12.mono hB.size)⟩)
end Go.Proofs.Ytbpfhclcjedkcaa

namespace Go.Proofs.Ytbpfhclcjedkcaa
open Go.RowKit
theorem step_appendB {w : World} {o : Oper} {a : Go.Act} {K : Go.Act → World → Prop} {Q : Exit → Go.Act → World → Prop} {y : Nat → Option Bool} {s x : Operand} {base : Nat} {v : Value} {xs ys : List Nat} {ad : Option Addr} {n c : Nat} (hw : Region.wanted o y = true) (hown : OwnB w base v xs) (hy : ByteRow w ad ys) (hn : Hid (ys.length = n))
    (hlen : xs.length + n ≤ 1099511627776) (hbase : base ≤ w.heap.size)
    (ho : o.op = .call { callee := .builtin .append, args := #[s, x], argTypes := #[42, 42] }) (hs : a.eval s = v) (hx : a.eval x = .slice ad n c)
    (h : ∀ v' w', OwnB w' base v' (xs ++ ys) → w.grownBy w' v.ownBlock → K (a.put o.dst v') w') : if Region.wanted o y = true then Oper.wp Try.prog o a w K Q else K (a.put o.dst undef) w := by
  rw [if_pos hw]
  have hn := hn.out; subst hn
  obtain ⟨v', w', hr, h2, h3, h4⟩ := run_appendB hown (c := c) hy hlen hbase o.type
  exact Lib.wp_append_run w s x 42 42 ho _ _ hs hx v' w' hr (h v' w' h2 h3)
theorem shortR_is {w : World} {m N : Nat} {F : List Nat} (hF : Hid (short m = F)) (hN : Hid (F.length = N)) (hm : m < 18446744073709551616) :
    Calls Try.prog 187 #[.int .u64 m] w fun e w' => ∃ a' c', e = .returned (.slice a' N c') ∧ OwnB w' w.heap.size (.slice a' N c') F ∧ ByteRow w' a' F ∧ Below w.heap.size w w' := by
  refine (shortR_any m hm).mono ?_
  rintro e w' ⟨v, rfl, hown, hb⟩
  rw [hF.out] at hown
  obtain ⟨a', c', rfl, hr, -⟩ := hown.row
  rw [hN.out] at *
  exact ⟨a', c', rfl, hown, hr, hb⟩
set_option maxRecDepth 100000 in
set_option maxHeartbeats 1600000 in
theorem pidPutR_any {w : World} (x y : Nat) (hx : x < 65536) (hy : y < 4294967296) :
    Calls Try.prog 108 #[.agg #[.int .u16 x, .int .u32 y]] w fun e w' => ∃ v, e = .returned v ∧ OwnB w' w.heap.size v (short x ++ short y) ∧ Below w.heap.size w w' := by
  have hB : Below w.heap.size w (w.alloc (.cells #[.int .u16 x, .int .u32 y] 26)) := (Below.refl _ _).alloc (Nat.le_refl _) _
  have hlx := short_len10 (n := x) (by omega)
  have hly := short_len10 (n := y) (by omega)
  obtain ⟨X, hX⟩ : ∃ F, short x = F := ⟨_, rfl⟩
  obtain ⟨Y, hY⟩ : ∃ F, short y = F := ⟨_, rfl⟩
  obtain ⟨NX, hNX⟩ : ∃ N, X.length = N := ⟨_, rfl⟩
  obtain ⟨NY, hNY⟩ : ∃ N, Y.length = N := ⟨_, rfl⟩
  rw [hX] at hlx
  rw [hY] at hly
  have hlX : X.length ≤ 10 := hlx
  have hlY : NY ≤ 10 := by omega
  rw [hX, hY]
  have hc0 : (w.alloc (.cells #[.int .u16 x, .int .u32 y] 26)).cell? ⟨w.heap.size, 0, none⟩ = some (.int .u16 x) := by simp
  have hc1 : (w.alloc (.cells #[.int .u16 x, .int .u32 y] 26)).cell? ⟨w.heap.size, 1, none⟩ = some (.int .u32 y) := by simp
  have HX := hid hX
  have HY := hid hY
  have HNX := hid hNX
  have HNY := hid hNY
  clear hX hY hNX hNY hlx hly
  obtain ⟨w1, hw1⟩ : ∃ w1, w.alloc (.cells #[.int .u16 x, .int .u32 y] 26) = w1 := ⟨_, rfl⟩
  rw [hw1] at hB hc0 hc1
  have H0 : Below w1.heap.size w1 w1.drew := (Below.refl _ _).drew
  have HS : Hid (∀ W, Below w1.heap.size w1 W → Below w1.heap.size w1 W ∧ W.cell? ⟨w.heap.size, 0, none⟩ = some (.int .u16 x) ∧ W.cell? ⟨w.heap.size, 1, none⟩ = some (.int .u32 y)) := hid fun W h => ⟨h, cell_toB hc0 h, cell_toB hc1 h⟩
  have C1 : Hid (∀ W, Below w1.heap.size w1 W → Calls Try.prog 187 #[.int .u64 x] W fun e w' => ∃ a' c', e = .returned (.slice a' NX c') ∧ OwnB w' w1.heap.size (.slice a' NX c') X ∧ Below w1.heap.size w1 w') := hid fun W h => ((shortR_is HX HNX (by omega)).mono fun e w' ⟨a', c', h1, h2, _, h4⟩ => ⟨a', c', h1, h2.mono h.size, h.trans (h4.mono h.size)⟩)
  have C2 : Hid (∀ W, Below w1.heap.size w1 W → Calls Try.prog 187 #[.int .u64 y] W fun e w' => ∃ a' c', e = .returned (.slice a' NY c') ∧ ByteRow w' a' Y ∧ Below W.heap.size W w' ∧ Below w1.heap.size w1 w') := hid fun W h => ((shortR_is HY HNY (by omega)).mono fun e w' ⟨a', c', h1, _, h3, h4⟩ => ⟨a', c', h1, h3, h4, h.trans (h4.mono h.size)⟩)
  clear hc0 hc1
  have ew1 : IntKind.u64.wrap ((x : Nat) : Int) = ((x : Nat) : Int) := by rw [IntKind.wrap_u64]; omega
  have ew2 : IntKind.u64.wrap ((y : Nat) : Int) = ((y : Nat) : Int) := by rw [IntKind.wrap_u64]; omega
  have EW1 := hid ew1
  go_enter Try.func108, Try.ntmps108
  go_wp2
  go_region_held3 (fun W => Below w1.heap.size w1 W ∧ W.cell? ⟨w.heap.size, 0, none⟩ = some (.int .u16 x) ∧ W.cell? ⟨w.heap.size, 1, none⟩ = some (.int .u32 y)) (first | exact HS.out _ H0 | exact HS.out _ (by assumption)) (first
    | ((go_at_call 187; (with_reducible refine (C1.out _ (by exact H0)).mono ?_); rintro e w11 ⟨a11, c11, rfl, hown11, hb11⟩))
    | ((go_at_call 187; (with_reducible refine (C2.out _ hb11).mono ?_); rintro e w12 ⟨a12, c12, rfl, hrow12, hbb12, hb12⟩))
    | ((refine step_appendB (by rfl) (hown11.ext hbb12) hrow12 HNY (by clear ew1 ew2; omega) hb12.size rfl rfl rfl ?_; intro v13 w13 hown13 hg13; have hb13 : Below w1.heap.size w1 w13 := below_of_grown hb12 hg13 (hown11.ext hbb12) hb12.size (Nat.le_refl _))))
  all_goals (
    clear ew1 ew2
    go_wp2
    go_ret
    exact ⟨_, rfl, hown13.mono hB.size, hB.trans (hb13.mono hB.size)⟩)
theorem run_fromB {a : Option Addr} {n c k : Nat} (h : k ≤ n) (W : World) : (Instr.slice 42 (.slice a n c) (some (.int .i64 k)) none none).run Try.prog W = .ok (.slice (if c = k then a else a.map (·.add (k * 1))) (n - k) (c - k)) W := by
  have hs : ∀ W, (sizeOf 5).run Try.prog W = .ok 1 W := fun W => Try.sizeOf5 W
  simp [Instr.slice, run_underlying Try.underlying42, Instr.sliceBounds, run_sliceBound, hs, Result.andThen, h]
theorem ByteRow.cut {w : World} {a : Option Addr} {bs : List Nat} (h : ByteRow w a bs) {k c : Nat} (hc : bs.length ≤ c) : ByteRow w (if c = k then a else a.map (·.add (k * 1))) (bs.drop k) := by
  by_cases hk : k < bs.length
  · rw [if_neg (by omega)]
    rcases h with rfl | ⟨b, off, rfl, hb, hcell⟩
    · simp at hk
    · refine .inr ⟨b, off + k, by simp [addr_addB], hb, fun i hi => ?_⟩
      simp only [List.length_drop] at hi
      have := hcell (k + i) (by omega)
      rw [List.getElem_drop, show off + k + i = off + (k + i) by omega]
      exact this
  · rw [List.drop_eq_nil_of_le (by omega)]; exact .inl rfl
/-- the three results of a process's reading -/
def pidT (q : Pid × Nat × Nat) : Value := .tuple #[.agg #[.int .u16 q.1.1, .int .u32 q.1.2], .int .i64 q.2.1, .int .i64 q.2.2]

set_option maxRecDepth 100000 in
set_option maxHeartbeats 3200000 in
theorem pidGet_any {a : Option Addr} {c n : Nat} {bs : List Nat} {w : World} (hn : Hid (bs.length = n)) (hc : n ≤ c) (hl : n ≤ 70368744177664) (hby : ∀ b ∈ bs, b < 256) (hrow : ByteRow w a bs) :
    Calls Try.prog 231 #[.slice a n c] w fun e w' => e = .returned (pidT (getP bs)) ∧ Below w.heap.size w w' := by
  have hB : Below w.heap.size w (w.alloc (.cells #[.int .u16 0, .int .u32 0] 26)) := (Below.refl _ _).alloc (Nat.le_refl _) _
  have hr1 := hrow.ext hB
  obtain ⟨⟨x1, u1, e1⟩, hG1⟩ : ∃ q, getS bs = q := ⟨_, rfl⟩
  have HG1 := hid hG1
  have hok1 := getFrom_ok bs 0 0 (by decide) (by decide)
  rw [show getFrom 0 0 bs = getS bs from rfl, hG1] at hok1
  simp only at hok1
  have HBY := hid hby
  by_cases he1 : e1 = 0
  · subst he1
    obtain ⟨q1, q2, q3, q4⟩ := hok1 rfl
    have hu1 : u1 ≤ n := by rw [← hn.out]; omega
    obtain ⟨A1, hA1⟩ : ∃ A, (if c = u1 then a else a.map (·.add (u1 * 1))) = A := ⟨_, rfl⟩
    have hrun := fun W => run_fromB (a := a) (c := c) hu1 W
    have hr2 := hr1.cut (k := u1) (c := c) (by rw [hn.out]; exact hc)
    rw [hA1] at hr2
    simp only [hA1] at hrun
    obtain ⟨n2, hn2⟩ : ∃ n2, n - u1 = n2 := ⟨_, rfl⟩
    obtain ⟨c2, hc2⟩ : ∃ c2, c - u1 = c2 := ⟨_, rfl⟩
    simp only [hn2, hc2] at hrun
    have hnd : Hid ((bs.drop u1).length = n2) := hid (by rw [List.length_drop, hn.out, hn2])
    have hby2 : ∀ b ∈ bs.drop u1, b < 256 := fun b hb => HBY.out b (List.mem_of_mem_drop hb)
    obtain ⟨⟨x2, u2, e2⟩, hG2⟩ : ∃ q, getS (bs.drop u1) = q := ⟨_, rfl⟩
    have HG2 := hid hG2
    have hok2 := getFrom_ok (bs.drop u1) 0 0 (by decide) (by decide)
    rw [show getFrom 0 0 (bs.drop u1) = getS (bs.drop u1) from rfl, hG2] at hok2
    simp only at hok2
    have hn2l : n2 ≤ 70368744177664 := by omega
    have HBY2 := hid hby2
    have HN2 := hid hn2
    clear hA1 hn2 hc2 hby2 hG1 hG2 hok1 hby
    by_cases he2 : e2 = 0
    · subst he2
      obtain ⟨p1, p2, p3, p4⟩ := hok2 rfl
      rw [hnd.out] at p3
      clear hok2
      by_cases hb1 : 65535 < x1
      · have HE : Hid (getP bs = ((0, 0), 0, 5)) := hid (by unfold getP; simp only [HG1.out, HG2.out]; rw [if_neg (by simp), if_neg (by simp), if_pos (.inl hb1)])
        have t1 : decide (65535 < x1) = true := by simpa using hb1
        have t1' : decide ((65535 : Int) < x1) = true := by simp; omega
        go_enter Try.func231, Try.ntmps231
        go_wp2_with (first
          | (go_at_call 230; (with_reducible refine (getShort_is HG1 hn hl HBY.out hr1).mono ?_); rintro e w' ⟨rfl, rfl⟩)
          | (go_at_call 230; (with_reducible refine (getShort_is HG2 hnd hn2l HBY2.out hr2).mono ?_); rintro e w' ⟨rfl, rfl⟩))
        exact bodyPost_ret (v := .tuple #[.agg #[.int .u16 0, .int .u32 0], .int .i64 0, .int .i64 5]) (by simp [results, Try.results231, go_sem]) rfl ⟨by rw [HE.out]; rfl, (Below.refl _ _).alloc (Nat.le_refl _) _⟩
      · have t1 : decide (65535 < x1) = false := by simpa using hb1
        have t1' : decide ((65535 : Int) < x1) = false := by simp; omega
        by_cases hb2 : 4294967295 < x2
        · have HE : Hid (getP bs = ((0, 0), 0, 5)) := hid (by unfold getP; simp only [HG1.out, HG2.out]; rw [if_neg (by simp), if_neg (by simp), if_pos (.inr hb2)])
          have t2 : decide (4294967295 < x2) = true := by simpa using hb2
          have t2' : decide ((4294967295 : Int) < x2) = true := by simp; omega
          go_enter Try.func231, Try.ntmps231
          go_wp2_with (first
            | (go_at_call 230; (with_reducible refine (getShort_is HG1 hn hl HBY.out hr1).mono ?_); rintro e w' ⟨rfl, rfl⟩)
            | (go_at_call 230; (with_reducible refine (getShort_is HG2 hnd hn2l HBY2.out hr2).mono ?_); rintro e w' ⟨rfl, rfl⟩))
          exact bodyPost_ret (v := .tuple #[.agg #[.int .u16 0, .int .u32 0], .int .i64 0, .int .i64 5]) (by simp [results, Try.results231, go_sem]) rfl ⟨by rw [HE.out]; rfl, (Below.refl _ _).alloc (Nat.le_refl _) _⟩
        · have t2 : decide (4294967295 < x2) = false := by simpa using hb2
          have t2' : decide ((4294967295 : Int) < x2) = false := by simp; omega
          have HE : Hid (getP bs = ((((x1 : Nat) : Int), ((x2 : Nat) : Int)), u1 + u2, 0)) := hid (by unfold getP; simp only [HG1.out, HG2.out]; rw [if_neg (by simp), if_neg (by simp), if_neg (by omega)])
          have m1 : (x1 : Int) % 65536 = x1 := by omega
          have m2 : (x2 : Int) % 4294967296 = x2 := by omega
          go_enter Try.func231, Try.ntmps231
          go_wp2_with (first
            | (go_at_call 230; (with_reducible refine (getShort_is HG1 hn hl HBY.out hr1).mono ?_); rintro e w' ⟨rfl, rfl⟩)
            | (go_at_call 230; (with_reducible refine (getShort_is HG2 hnd hn2l HBY2.out hr2).mono ?_); rintro e w' ⟨rfl, rfl⟩))
          exact bodyPost_ret (v := .tuple #[.agg #[.int .u16 (x1 : Nat), .int .u32 (x2 : Nat)], .int .i64 ((u1 : Int) + (u2 : Int)), .int .i64 0]) (by simp [results, Try.results231, go_sem]) rfl ⟨by rw [HE.out]; rfl, (Below.refl _ _).alloc (Nat.le_refl _) _⟩
    · have HE : Hid (getP bs = ((0, 0), 0, e2)) := hid (by unfold getP; simp only [HG1.out, HG2.out]; rw [if_neg (by simp), if_pos he2])
      have t1 : decide (e2 = 0) = false := by simpa using he2
      have t2 : decide ((e2 : Int) = 0) = false := by simp; omega
      have t3 : ((e2 : Int) == 0) = false := by simp; omega
      have t4 : ((e2 : Int) != 0) = true := by simp; omega
      clear hok2
      go_enter Try.func231, Try.ntmps231
      go_wp2_with (first
        | (go_at_call 230; (with_reducible refine (getShort_is HG1 hn hl HBY.out hr1).mono ?_); rintro e w' ⟨rfl, rfl⟩)
        | (go_at_call 230; (with_reducible refine (getShort_is HG2 hnd hn2l HBY2.out hr2).mono ?_); rintro e w' ⟨rfl, rfl⟩))
      exact bodyPost_ret (v := .tuple #[.agg #[.int .u16 0, .int .u32 0], .int .i64 0, .int .i64 (e2 : Nat)]) (by simp [results, Try.results231, go_sem]) rfl ⟨by rw [HE.out]; rfl, (Below.refl _ _).alloc (Nat.le_refl _) _⟩
  · have HE : Hid (getP bs = ((0, 0), 0, e1)) := hid (by unfold getP; simp only [HG1.out]; rw [if_pos he1])
    have t1 : decide (e1 = 0) = false := by simpa using he1
    have t2 : decide ((e1 : Int) = 0) = false := by simp; omega
    have t3 : ((e1 : Int) == 0) = false := by simp; omega
    have t4 : ((e1 : Int) != 0) = true := by simp; omega
    clear hok1 hG1 hby
    go_enter Try.func231, Try.ntmps231
    go_wp2_with (go_at_call 230; (with_reducible refine (getShort_is HG1 hn hl HBY.out hr1).mono ?_); rintro e w' ⟨rfl, rfl⟩)
    exact bodyPost_ret (v := .tuple #[.agg #[.int .u16 0, .int .u32 0], .int .i64 0, .int .i64 (e1 : Nat)]) (by simp [results, Try.results231, go_sem]) rfl ⟨by rw [HE.out]; rfl, (Below.refl _ _).alloc (Nat.le_refl _) _⟩

set_option maxRecDepth 100000 in
set_option maxHeartbeats 3200000 in
theorem pidGetR_any {a : Option Addr} {c n : Nat} {bs : List Nat} {w : World} (hn : Hid (bs.length = n)) (hc : n ≤ c) (hl : n ≤ 70368744177664) (hby : ∀ b ∈ bs, b < 256) (hrow : ByteRow w a bs) :
    Calls Try.prog 203 #[.slice a n c] w fun e w' => e = .returned (pidT (getP bs)) ∧ Below w.heap.size w w' := by
  have hB : Below w.heap.size w (w.alloc (.cells #[.int .u16 0, .int .u32 0] 26)) := (Below.refl _ _).alloc (Nat.le_refl _) _
  have hr1 := hrow.ext hB
  obtain ⟨⟨x1, u1, e1⟩, hG1⟩ : ∃ q, getS bs = q := ⟨_, rfl⟩
  have HG1 := hid hG1
  have hok1 := getFrom_ok bs 0 0 (by decide) (by decide)
  rw [show getFrom 0 0 bs = getS bs from rfl, hG1] at hok1
  simp only at hok1
  have HBY := hid hby
  by_cases he1 : e1 = 0
  · subst he1
    obtain ⟨q1, q2, q3, q4⟩ := hok1 rfl
    have hu1 : u1 ≤ n := by rw [← hn.out]; omega
    obtain ⟨A1, hA1⟩ : ∃ A, (if c = u1 then a else a.map (·.add (u1 * 1))) = A := ⟨_, rfl⟩
    have hrun := fun W => run_fromB (a := a) (c := c) hu1 W
    have hr2 := hr1.cut (k := u1) (c := c) (by rw [hn.out]; exact hc)
    rw [hA1] at hr2
    simp only [hA1] at hrun
    obtain ⟨n2, hn2⟩ : ∃ n2, n - u1 = n2 := ⟨_, rfl⟩
    obtain ⟨c2, hc2⟩ : ∃ c2, c - u1 = c2 := ⟨_, rfl⟩
    simp only [hn2, hc2] at hrun
    have hnd : Hid ((bs.drop u1).length = n2) := hid (by rw [List.length_drop, hn.out, hn2])
    have hby2 : ∀ b ∈ bs.drop u1, b < 256 := fun b hb => HBY.out b (List.mem_of_mem_drop hb)
    obtain ⟨⟨x2, u2, e2⟩, hG2⟩ : ∃ q, getS (bs.drop u1) = q := ⟨_, rfl⟩
    have HG2 := hid hG2
    have hok2 := getFrom_ok (bs.drop u1) 0 0 (by decide) (by decide)
    rw [show getFrom 0 0 (bs.drop u1) = getS (bs.drop u1) from rfl, hG2] at hok2
    simp only at hok2
    have hn2l : n2 ≤ 70368744177664 := by omega
    have HBY2 := hid hby2
    have HN2 := hid hn2
    clear hA1 hn2 hc2 hby2 hG1 hG2 hok1 hby
    by_cases he2 : e2 = 0
    · subst he2
      obtain ⟨p1, p2, p3, p4⟩ := hok2 rfl
      rw [hnd.out] at p3
      clear hok2
      by_cases hb1 : 65535 < x1
      · have HE : Hid (getP bs = ((0, 0), 0, 5)) := hid (by unfold getP; simp only [HG1.out, HG2.out]; rw [if_neg (by simp), if_neg (by simp), if_pos (.inl hb1)])
        have t1 : decide (65535 < x1) = true := by simpa using hb1
        have t1' : decide ((65535 : Int) < x1) = true := by simp; omega
        go_enter Try.func203, Try.ntmps203
        go_wp2_with (first
          | (go_at_call 196; (with_reducible refine (getShortR_is HG1 hn hl HBY.out hr1).mono ?_); rintro e w' ⟨rfl, rfl⟩)
          | (go_at_call 196; (with_reducible refine (getShortR_is HG2 hnd hn2l HBY2.out hr2).mono ?_); rintro e w' ⟨rfl, rfl⟩))
        exact bodyPost_ret (v := .tuple #[.agg #[.int .u16 0, .int .u32 0], .int .i64 0, .int .i64 5]) (by simp [results, Try.results203, go_sem]) rfl ⟨by rw [HE.out]; rfl, (Below.refl _ _).alloc (Nat.le_refl _) _⟩
      · have t1 : decide (65535 < x1) = false := by simpa using hb1
        have t1' : decide ((65535 : Int) < x1) = false := by simp; omega
        by_cases hb2 : 4294967295 < x2
        · have HE : Hid (getP bs = ((0, 0), 0, 5)) := hid (by unfold getP; simp only [HG1.out, HG2.out]; rw [if_neg (by simp), if_neg (by simp), if_pos (.inr hb2)])
          have t2 : decide (4294967295 < x2) = true := by simpa using hb2
          have t2' : decide ((4294967295 : Int) < x2) = true := by simp; omega
          go_enter Try.func203, Try.ntmps203
          go_wp2_with (first
            | (go_at_call 196; (with_reducible refine (getShortR_is HG1 hn hl HBY.out hr1).mono ?_); rintro e w' ⟨rfl, rfl⟩)
            | (go_at_call 196; (with_reducible refine (getShortR_is HG2 hnd hn2l HBY2.out hr2).mono ?_); rintro e w' ⟨rfl, rfl⟩))
          exact bodyPost_ret (v := .tuple #[.agg #[.int .u16 0, .int .u32 0], .int .i64 0, .int .i64 5]) (by simp [results, Try.results203, go_sem]) rfl ⟨by rw [HE.out]; rfl, (Below.refl _ _).alloc (Nat.le_refl _) _⟩
        · have t2 : decide (4294967295 < x2) = false := by simpa using hb2
          have t2' : decide ((4294967295 : Int) < x2) = false := by simp; omega
          have HE : Hid (getP bs = ((((x1 : Nat) : Int), ((x2 : Nat) : Int)), u1 + u2, 0)) := hid (by unfold getP; simp only [HG1.out, HG2.out]; rw [if_neg (by simp), if_neg (by simp), if_neg (by omega)])
          have m1 : (x1 : Int) % 65536 = x1 := by omega
          have m2 : (x2 : Int) % 4294967296 = x2 := by omega
          go_enter Try.func203, Try.ntmps203
          go_wp2_with (first
            | (go_at_call 196; (with_reducible refine (getShortR_is HG1 hn hl HBY.out hr1).mono ?_); rintro e w' ⟨rfl, rfl⟩)
            | (go_at_call 196; (with_reducible refine (getShortR_is HG2 hnd hn2l HBY2.out hr2).mono ?_); rintro e w' ⟨rfl, rfl⟩))
          exact bodyPost_ret (v := .tuple #[.agg #[.int .u16 (x1 : Nat), .int .u32 (x2 : Nat)], .int .i64 ((u1 : Int) + (u2 : Int)), .int .i64 0]) (by simp [results, Try.results203, go_sem]) rfl ⟨by rw [HE.out]; rfl, (Below.refl _ _).alloc (Nat.le_refl _) _⟩
    · have HE : Hid (getP bs = ((0, 0), 0, e2)) := hid (by unfold getP; simp only [HG1.out, HG2.out]; rw [if_neg (by simp), if_pos he2])
      have t1 : decide (e2 = 0) = false := by simpa using he2
      have t2 : decide ((e2 : Int) = 0) = false := by simp; omega
      have t3 : ((e2 : Int) == 0) = false := by simp; omega
      have t4 : ((e2 : Int) != 0) = true := by simp; omega
      clear hok2
      go_enter Try.func203, Try.ntmps203
      go_wp2_with (first
        | (go_at_call 196; (with_reducible refine (getShortR_is HG1 hn hl HBY.out hr1).mono ?_); rintro e w' ⟨rfl, rfl⟩)
        | (go_at_call 196; (with_reducible refine (getShortR_is HG2 hnd hn2l HBY2.out hr2).mono ?_); rintro e w' ⟨rfl, rfl⟩))
      exact bodyPost_ret (v := .tuple #[.agg #[.int .u16 0, .int .u32 0], .int .i64 0, .int .i64 (e2 : Nat)]) (by simp [results, Try.results203, go_sem]) rfl ⟨by rw [HE.out]; rfl, (Below.refl _ _).alloc (Nat.le_refl _) _⟩
  · have HE : Hid (getP bs = ((0, 0), 0, e1)) := hid (by unfold getP; simp only [HG1.out]; rw [if_pos he1])
    have t1 : decide (e1 = 0) = false := by simpa using he1
    have t2 : decide ((e1 : Int) = 0) = false := by simp; omega
    have t3 : ((e1 : Int) == 0) = false := by simp; omega
    have t4 : ((e1 : Int) != 0) = true := by simp; omega
    clear hok1 hG1 hby
    go_enter Try.func203, Try.ntmps203
    go_wp2_with (go_at_call 196; (with_reducible refine (getShortR_is HG1 hn hl HBY.out hr1).mono ?_); rintro e w' ⟨rfl, rfl⟩)
    exact bodyPost_ret (v := .tuple #[.agg #[.int .u16 0, .int .u32 0], .int .i64 0, .int .i64 (e1 : Nat)]) (by simp [results, Try.results203, go_sem]) rfl ⟨by rw [HE.out]; rfl, (Below.refl _ _).alloc (Nat.le_refl _) _⟩
end Go.Proofs.Ytbpfhclcjedkcaa

namespace Go.Proofs.Ytbpfhclcjedkcaa
open Go.RowKit
def eqB : List Nat → List Nat → Bool
  | [], _ => true
  | _ :: _, [] => true
  | x :: l, y :: r => if x = y then eqB l r else false
theorem eqB_drop {xs ys : List Nat} {k : Nat} (h : k < xs.length) (h' : k < ys.length) {p q : Nat} (hp : p = xs[k]) (hq : q = ys[k]) : eqB (xs.drop k) (ys.drop k) = if p = q then eqB (xs.drop (k + 1)) (ys.drop (k + 1)) else false := by
  rw [List.drop_eq_getElem_cons h, List.drop_eq_getElem_cons h', ← hp, ← hq]; rfl
theorem eqB_iff : ∀ {xs ys : List Nat}, xs.length = ys.length → (eqB xs ys = true ↔ xs = ys)
  | [], [], _ => by simp [eqB]
  | x :: l, y :: r, h => by
    have ih := eqB_iff (xs := l) (ys := r) (by simpa using h)
    simp only [eqB]
    by_cases hxy : x = y
    · rw [if_pos hxy, ih]; simp [hxy]
    · rw [if_neg hxy]; simp [hxy]
  | [], y :: r, h => by simp at h
  | x :: l, [], h => by simp at h
theorem eqB_eq {xs ys : List Nat} (h : xs.length = ys.length) : decide (xs = ys) = eqB xs ys := by
  rw [Bool.eq_iff_iff, eqB_iff h]; simp
set_option maxRecDepth 100000 in
set_option maxHeartbeats 800000 in
theorem sameB_any {a b : Option Addr} {ca cb n m : Nat} {xs ys : List Nat} {w : World} (hn : Hid (xs.length = n)) (hm : Hid (ys.length = m)) (hnl : n ≤ 70368744177664) (hml : m ≤ 70368744177664) (hx : ByteRow w a xs) (hy : ByteRow w b ys) :
   Calls Try.prog 30 #[.slice a n ca, .slice b m cb] w fun e w' => e = .returned (.bool (decide (xs = ys))) ∧ Below w.heap.size w w' := by
  by_cases hl : n = m
  · have hsp := eqB_eq (xs := xs) (ys := ys) (by rw [hn.out, hm.out]; exact hl)
    subst hl
    have hl' : ((n : Int) != (n : Int)) = false := by simp
    have HSP := hid hsp
    clear hsp
    go_enter Try.func30, Try.ntmps30
    go_wp2
    go_loopw [4, 5] (fun rs kv wr => rs = .bool false ∧ ∃ k : Nat, k ≤ n ∧ kv = .int .i64 k ∧ Hid (decide (xs = ys) = eqB (xs.drop k) (ys.drop k)) ∧ Below w.heap.size w wr) (fun _ kv _ => n - (intOf kv).toNat)
    case atStart => exact ⟨rfl, 0, Nat.zero_le _, rfl, HSP, Below.refl _ _⟩
    case round =>
      obtain ⟨rfl, k, hk, rfl, ha, hb⟩ := hrel
      by_cases hkt : k < n
      · have hk1 : k < xs.length := by rw [hn.out]; exact hkt
        have hk2 : k < ys.length := by rw [hm.out]; exact hkt
        obtain ⟨b1, o1, x1, rfl, hx1, q0⟩ := hx.at hb rfl hk1
        obtain ⟨b2, o2, x2, rfl, hx2, q2⟩ := hy.at hb rfl hk2
        have hd := eqB_drop hk1 hk2 hx1 hx2
        have HD := hid hd
        clear hd hx1 hx2
        by_cases hxy : x1 = x2
        · have HXY := hid hxy
          have e1 : ((x1 : Int) != (x2 : Int)) = false := by simp [hxy]
          clear hxy
          go_wp2
          go_quiet (fail)
          go_wp2
          go_roundw
          case rel => exact ⟨rfl, k + 1, by omega, by go_num, (ha.out.trans (by rw [HD.out, if_pos HXY.out]) : _), below_drewN hb _⟩
          case measure => simp [intOf]; omega
        · have HXY : Hid (¬ x1 = x2) := hxy
          have e1 : ((x1 : Int) != (x2 : Int)) = true := by simp; omega
          clear hxy
          go_wp2
          go_quiet (fail)
          go_wp2
          go_ret
          exact ⟨ret_bool (by rw [ha.out, HD.out, if_neg HXY.out]), below_drewN hb _⟩
      · go_wp2
        go_ret
        exact ⟨ret_bool (by rw [ha.out, List.drop_eq_nil_of_le (by rw [hn.out]; omega)]; rfl), hb⟩
  · have hne : decide (xs = ys) = false := by simp; intro e; exact hl (by rw [← hn.out, ← hm.out, e])
    have hl' : ((n : Int) != (m : Int)) = true := by rw [bne_iff_ne]; omega
    have HN := hid hne
    clear hne hl
    go_enter Try.func30, Try.ntmps30
    go_wp2
    go_ret
    exact ⟨ret_bool HN.out.symm, Below.refl _ _⟩
theorem sameB_is {a b : Option Addr} {ca cb n m : Nat} {xs ys : List Nat} {w : World} {bm : Bool} (h : Hid (decide (xs = ys) = bm)) (hn : Hid (xs.length = n)) (hm : Hid (ys.length = m)) (hnl : n ≤ 70368744177664) (hml : m ≤ 70368744177664) (hx : ByteRow w a xs) (hy : ByteRow w b ys) :
   Calls Try.prog 30 #[.slice a n ca, .slice b m cb] w fun e w' => e = .returned (.bool bm) ∧ Below w.heap.size w w' := by
  have := sameB_any (ca := ca) (cb := cb) (w := w) hn hm hnl hml hx hy
  rw [h.out] at this; exact this
/-! ### lent bytes -/
/-- what a row in the making holds, as far as k -/
structure Fill (w : World) (g k : Nat) (F : List Nat) : Prop where
  cells : ∀ j (h : j < F.length), j < k → w.cell? ⟨g, j, none⟩ = some (.int .u8 (F[j] : Nat))
  there : ∀ j, j < F.length → (w.cell? ⟨g, j, none⟩).isSome = true
  fro : ∀ j, w.frozen? ⟨g, j, none⟩ = false
theorem Fill.step {w : World} {g k : Nat} {F : List Nat} (h : Fill w g k F) {x : Nat} (hk : k < F.length) (hx : x = F[k]) : Fill (w.setCell ⟨g, k, none⟩ (.int .u8 x)) g (k + 1) F := by
  refine ⟨fun j hj hjk => ?_, fun j hj => ?_, fun j => by simp [h.fro]⟩
  · by_cases e : j = k
    · subst e
      obtain ⟨v, hv⟩ := Option.isSome_iff_exists.1 (h.there j hj)
      rw [World.cell?_setCell_same _ _ _ hv, hx]
    · rw [World.cell?_setCell_other _ _ _ _ (by simp <;> omega)]
      exact h.cells j hj (by omega)
  · by_cases e : j = k
    · subst e
      obtain ⟨v, hv⟩ := Option.isSome_iff_exists.1 (h.there j hj)
      rw [World.cell?_setCell_same _ _ _ hv]; rfl
    · rw [World.cell?_setCell_other _ _ _ _ (by simp <;> omega)]
      exact h.there j hj
theorem Fill.made (w : World) (Z : Array Value) (F : List Nat) (h : F.length ≤ Z.size) : Fill (w.alloc (.cells Z 5)) w.heap.size 0 F := by
  refine ⟨fun j _ h => by omega, fun j hj => ?_, fun j => by simp⟩
  have : (w.alloc (.cells Z 5)).cell? ⟨w.heap.size, j, none⟩ = Z[j]? := by simp
  rw [this]; simp; omega
theorem Fill.row {w : World} {g k : Nat} {F : List Nat} (h : Fill w g k F) (hk : F.length ≤ k) (hg : g < w.heap.size) : ByteRow w (some ⟨g, 0, none⟩) F :=
  .inr ⟨g, 0, rfl, hg, fun i hi => by rw [Nat.zero_add]; exact h.cells i hi (by omega)⟩
theorem run_makeFull (w : World) (n : Nat) (h : n ≤ 549755813888) : (Instr.makeSlice 42 (.int .i64 ((n : Int) + 8)) (.int .i64 ((n : Int) + 8))).run Try.prog w = .ok (.slice (some ⟨w.heap.size, 0, none⟩) (n + 8) (n + 8)) (w.alloc (.cells (madeCells #[.int .u8 0] (n + 8)) 5)) := by
  obtain ⟨i0, hi, hz0, hz1, hz2⟩ := info_parts infoB
  have := run_make (P := Try.prog) w 42 5 i0 (.int .u8 0) Try.underlying42 hi hz0 .i64 .i64 ((n : Int) + 8) ((n : Int) + 8) (by omega) (by omega) (by rw [hz2]; omega) (by omega)
  rw [hz1] at this
  have e1 : ((n : Int) + 8).toNat = n + 8 := by omega
  rw [e1] at this
  simpa [Value.cells] using this
/-- eight more bytes, in which nobody may write -/
def lentL (bs : List Nat) : List Nat := bs ++ List.replicate 8 165
theorem lentL_len (bs : List Nat) : (lentL bs).length = bs.length + 8 := by simp [lentL]
theorem lentL_lo {bs : List Nat} {k : Nat} (h : k < bs.length) (h2 : k < (lentL bs).length) : (lentL bs)[k] = bs[k] := by
  have h3 : k < (bs ++ List.replicate 8 165).length := h2
  exact (List.getElem_append_left h : (bs ++ List.replicate 8 165)[k]'h3 = bs[k])
theorem lentL_hi {bs : List Nat} {k : Nat} (h : bs.length ≤ k) (h2 : k < (lentL bs).length) : (lentL bs)[k] = 165 := by
  have h3 : k < (bs ++ List.replicate 8 165).length := h2
  have h4 : (bs ++ List.replicate 8 165)[k]'h3 = 165 := by rw [List.getElem_append_right h, List.getElem_replicate]
  exact h4
theorem run_uptoB {a : Option Addr} {n c k : Nat} (h : k ≤ c) (W : World) : (Instr.slice 42 (.slice a n c) none (some (.int .i64 k)) none).run Try.prog W = .ok (.slice (if c = 0 then a else a.map (·.add (0 * 1))) (k - 0) (c - 0)) W := by
  have hs : ∀ W, (sizeOf 5).run Try.prog W = .ok 1 W := fun W => Try.sizeOf5 W
  simp [Instr.slice, run_underlying Try.underlying42, Instr.sliceBounds, run_sliceBound, hs, Result.andThen, h]
set_option maxRecDepth 100000 in
set_option maxHeartbeats 1600000 in
theorem lent_any {a : Option Addr} {c n : Nat} {bs : List Nat} {w : World} (hn : Hid (bs.length = n)) (hl : n ≤ 549755813888) (hrow : ByteRow w a bs) :
    Calls Try.prog 38 #[.slice a n c] w fun e w' => ∃ g, e = .returned (.slice (some ⟨g, 0, none⟩) n (n + 8)) ∧ w.heap.size ≤ g ∧ ByteRow w' (some ⟨g, 0, none⟩) (lentL bs) ∧ Below w.heap.size w w' := by
  have hmk := run_makeFull w n hl
  obtain ⟨Z, hZ⟩ : ∃ Z, madeCells #[.int .u8 0] (n + 8) = Z := ⟨_, rfl⟩
  have hZs : Z.size = n + 8 := by rw [← hZ]; exact size_madeCells _ _
  rw [hZ] at hmk
  have hFl : (lentL bs).length = n + 8 := by rw [lentL_len, hn.out]
  have hfill := Fill.made w Z (lentL bs) (by omega)
  have hB : Below w.heap.size w (w.alloc (.cells Z 5)) := (Below.refl _ _).alloc (Nat.le_refl _) _
  have hsz : w.heap.size < (w.alloc (.cells Z 5)).heap.size := by simp
  have hup := fun W => run_uptoB (a := some ⟨w.heap.size, 0, none⟩) (n := n + 8) (c := n + 8) (k := n) (by omega) W
  have e0 : (if n + 8 = 0 then (some ⟨w.heap.size, 0, none⟩ : Option Addr) else (some ⟨w.heap.size, 0, none⟩ : Option Addr).map (·.add (0 * 1))) = some ⟨w.heap.size, 0, none⟩ := by simp [addr_addB]
  simp only [e0, Nat.sub_zero] at hup
  have HF := hid hFl
  have HFILL := hid hfill
  have HSZ := hid hsz
  have hlo : Hid (∀ k, k < n → ∀ x, (∃ h : k < bs.length, x = bs[k]) → ∃ h : k < (lentL bs).length, x = (lentL bs)[k]) := hid (fun k hk x ⟨h, e⟩ => ⟨by rw [hFl]; omega, by rw [lentL_lo h]; exact e⟩)
  have hhi : Hid (∀ k, n ≤ k → k < n + 8 → ∃ h : k < (lentL bs).length, 165 = (lentL bs)[k]) := hid (fun k hk hk2 => ⟨by rw [hFl]; omega, by rw [lentL_hi (by rw [hn.out]; exact hk)]⟩)
  clear hZ hZs hFl hfill hsz e0
  go_enter Try.func38, Try.ntmps38
  go_wp2
  go_loopw [4] (fun i wr => ∃ k : Nat, k ≤ n + 8 ∧ i = .int .i64 k ∧ Fill wr w.heap.size k (lentL bs) ∧ w.heap.size < wr.heap.size ∧ Below w.heap.size w wr) (fun i _ => n + 8 - (intOf i).toNat)
  case atStart => exact ⟨0, Nat.zero_le _, rfl, HFILL.out, HSZ.out, hB⟩
  case round =>
    obtain ⟨k, hk, rfl, hf, hs, hb⟩ := hrel
    by_cases hlt : k < n + 8
    · have t1 : decide ((k : Int) < (n : Int) + 8) = true := by simp; omega
      have t1' : decide (k < n + 8) = true := by simpa using hlt
      have hkl : k < (lentL bs).length := by rw [HF.out]; exact hlt
      obtain ⟨v0, hv0⟩ := Option.isSome_iff_exists.1 (hf.there k hkl)
      have hfr := hf.fro k
      by_cases hkn : k < n
      · have t2 : decide (k < n) = true := by simpa using hkn
        have hkb : k < bs.length := by rw [hn.out]; exact hkn
        obtain ⟨pb, po, x, rfl, hx, d1⟩ := hrow.at hb rfl hkb
        obtain ⟨hk2, hx2⟩ := hlo.out k hkn x ⟨hkb, hx⟩
        have HFS := hid (hf.step hk2 hx2)
        clear hx hx2
        go_wp2
        go_roundw
        case rel => exact ⟨k + 1, by omega, by go_num, HFS.out, by simpa using hs, hb.setCell (by simp) _⟩
        case measure => simp [intOf]; omega
      · have t2 : decide (k < n) = false := by simpa using hkn
        obtain ⟨hk2, hx2⟩ := hhi.out k (by omega) hlt
        have HFS := hid (hf.step hk2 hx2)
        clear hx2
        go_wp2
        go_roundw
        case rel => exact ⟨k + 1, by omega, by go_num, HFS.out, by simpa using hs, hb.setCell (by simp) _⟩
        case measure => simp [intOf]; omega
    · have t1 : decide ((k : Int) < (n : Int) + 8) = false := by simp; omega
      have t1' : decide (k < n + 8) = false := by simpa using hlt
      go_wp2
      go_ret
      exact ⟨w.heap.size, rfl, Nat.le_refl _, hf.row (by rw [HF.out]; omega) hs, hb⟩
set_option maxRecDepth 100000 in
set_option maxHeartbeats 1600000 in
theorem kept_any {g n c : Nat} {b : Option Addr} {bs : List Nat} {w : World} (hn : Hid (bs.length = n)) (hl : n ≤ 549755813888) (hrow : ByteRow w (some ⟨g, 0, none⟩) (lentL bs)) (hy : ByteRow w b bs) :
    Calls Try.prog 42 #[.slice (some ⟨g, 0, none⟩) n (n + 8), .slice b n c] w fun e w' => e = .returned (.bool true) ∧ Below w.heap.size w w' := by
  have hlow : ByteRow w (some ⟨g, 0, none⟩) bs := by
    have := hrow.upto n
    have e : (lentL bs).take n = bs := by unfold lentL; rw [← hn.out, List.take_left]
    rwa [e] at this
  have C1 := hid (sameB_is (ca := n + 8) (cb := c) (bm := true) (hid (by simp)) hn hn (by omega) (by omega) hlow hy)
  have hup := fun W => run_uptoB (a := some ⟨g, 0, none⟩) (n := n) (c := n + 8) (k := n + 8) (Nat.le_refl _) W
  have e0 : (if n + 8 = 0 then (some ⟨g, 0, none⟩ : Option Addr) else (some ⟨g, 0, none⟩ : Option Addr).map (·.add (0 * 1))) = some ⟨g, 0, none⟩ := by simp [addr_addB]
  simp only [e0, Nat.sub_zero, Int.natCast_add] at hup
  have hFl : Hid ((lentL bs).length = n + 8) := hid (by rw [lentL_len, hn.out])
  have HROW := hid hrow
  clear e0 hlow hrow
  go_enter Try.func42, Try.ntmps42
  go_wp2_with (go_at_call 30; refine C1.out.mono ?_; rintro e w1 ⟨rfl, hb1⟩)
  go_loopw [6] (fun i wr => ∃ k : Nat, n ≤ k ∧ k ≤ n + 8 ∧ i = .int .i64 k ∧ Below w.heap.size w wr) (fun i _ => n + 8 - (intOf i).toNat)
  case atStart => exact ⟨n, Nat.le_refl _, by omega, rfl, hb1⟩
  case round =>
    obtain ⟨k, hk0, hk, rfl, hb⟩ := hrel
    by_cases hlt : k < n + 8
    · have t1 : decide ((k : Int) < (n : Int) + 8) = true := by simp; omega
      have t1' : decide (k < n + 8) = true := by simpa using hlt
      obtain ⟨pb, po, x, he, hx, d1⟩ := HROW.out.at hb rfl (show k < (lentL bs).length by rw [hFl.out]; exact hlt)
      cases he
      rw [lentL_hi (by rw [hn.out]; exact hk0)] at hx
      subst hx
      simp only [Nat.zero_add] at d1
      go_wp2
      go_roundw
      case rel => exact ⟨k + 1, by omega, by omega, by go_num, hb⟩
      case measure => simp [intOf]; omega
    · have t1 : decide ((k : Int) < (n : Int) + 8) = false := by simp; omega
      have t1' : decide (k < n + 8) = false := by simpa using hlt
      go_wp2
      go_ret
      exact ⟨rfl, hb⟩
end Go.Proofs.Ytbpfhclcjedkcaa

namespace Go.Proofs.Ytbpfhclcjedkcaa
open Go.RowKit
/-! ### the forms, and the readers, in plain words -/
def pidsF (l : List Pid) : List Nat := short l.length ++ l.flatMap pidF
def rankF (ms : List Pid) (p : Pid) : List Nat := short (atIx ms p).toNat
def placesF (ms l : List Pid) : List Nat := short l.length ++ l.flatMap (rankF ms)
def viewF (V : View) : List Nat := short V.id.toNat ++ (pidsF V.ms ++ (short V.ls.length ++ (V.ls.flatMap (placesF V.ms) ++ placesF V.ms V.ds)))
/-- what is left to read, and what stopped it -/
structure RS where
  b : List Nat
  e : Nat
def rNum (most : Nat) (s : RS) : Nat × RS :=
  if s.e ≠ 0 then (0, s)
  else if (getS s.b).2.2 ≠ 0 then (0, ⟨s.b, (getS s.b).2.2⟩)
  else if most < (getS s.b).1 then (0, ⟨s.b, 3⟩)
  else ((getS s.b).1, ⟨s.b.drop (getS s.b).2.1, 0⟩)
def rPid (s : RS) : Pid × RS :=
  if s.e ≠ 0 then ((0, 0), s)
  else if (getP s.b).2.2 ≠ 0 then ((0, 0), ⟨s.b, (getP s.b).2.2⟩)
  else ((getP s.b).1, ⟨s.b.drop (getP s.b).2.1, 0⟩)
def rPidsN : Nat → RS → List Pid × RS
  | 0, s => ([], s)
  | n + 1, s => if s.e ≠ 0 then ([], s) else ((rPid s).1 :: (rPidsN n (rPid s).2).1, (rPidsN n (rPid s).2).2)
def rPids (most : Nat) (s : RS) : List Pid × RS :=
  if s.e ≠ 0 then ([], s)
  else if (rPidsN (rNum most s).1 (rNum most s).2).2.e ≠ 0 then ([], ⟨s.b, (rPidsN (rNum most s).1 (rNum most s).2).2.e⟩)
  else rPidsN (rNum most s).1 (rNum most s).2
def rBytes (most : Nat) (s : RS) : List Nat × RS :=
  if s.e ≠ 0 then ([], s)
  else if (rNum most s).2.e ≠ 0 then ([], ⟨s.b, (rNum most s).2.e⟩)
  else if (rNum most s).2.b.length < (rNum most s).1 then ([], ⟨s.b, 2⟩)
  else ((rNum most s).2.b.take (rNum most s).1, ⟨(rNum most s).2.b.drop (rNum most s).1, 0⟩)
def rPlacesN (ms : List Pid) : Nat → RS → List Pid × RS
  | 0, s => ([], s)
  | n + 1, s =>
    if s.e ≠ 0 then ([], s)
    else if ms = [] then ([], ⟨s.b, 3⟩)
    else (ms.getD (rNum (ms.length - 1) s).1 (0, 0) :: (rPlacesN ms n (rNum (ms.length - 1) s).2).1, (rPlacesN ms n (rNum (ms.length - 1) s).2).2)
def rPlaces (ms : List Pid) (s : RS) : List Pid × RS := rPlacesN ms (rNum 24 s).1 (rNum 24 s).2
def rLeaves (ms : List Pid) : Nat → RS → List (List Pid) × RS
  | 0, s => ([], s)
  | n + 1, s => if s.e ≠ 0 then ([], s) else ((rPlaces ms s).1 :: (rLeaves ms n (rPlaces ms s).2).1, (rLeaves ms n (rPlaces ms s).2).2)
/-- the parts of a view, and the reader behind them -/
def rParts (s : RS) : View × RS :=
  let a := rNum 4611686018427387904 s
  let m := rPids 24 a.2
  let n := rNum 24 m.2
  let l := rLeaves m.1 n.1 n.2
  let d := rPlaces m.1 l.2
  (⟨(a.1 : Nat), m.1, l.1, d.1⟩, d.2)
def zeroV : View := ⟨0, [], [], []⟩
def rView (s : RS) : View × RS :=
  if (rParts s).2.e ≠ 0 then (zeroV, (rParts s).2)
  else if refCheckB (rParts s).1 = false then (zeroV, ⟨(rParts s).2.b, 5⟩)
  else rParts s
/-! ### what was laid is read as it was -/
theorem rNum_back {n most : Nat} (h : n ≤ most) (hb : n < 18446744073709551616) (r : List Nat) : rNum most ⟨short n ++ r, 0⟩ = (n, ⟨r, 0⟩) := by
  unfold rNum
  simp only [getS_short hb]
  rw [if_neg (by simp), if_neg (by simp), if_neg (by omega)]
  simp
theorem rPid_back {p : Pid} (h : okP p) (r : List Nat) : rPid ⟨pidF p ++ r, 0⟩ = (p, ⟨r, 0⟩) := by
  unfold rPid
  simp only [getP_back h]
  rw [if_neg (by simp), if_neg (by simp)]
  simp
theorem rPidsN_back : ∀ {l : List Pid} (r : List Nat), (∀ p ∈ l, okP p) → rPidsN l.length ⟨l.flatMap pidF ++ r, 0⟩ = (l, ⟨r, 0⟩)
  | [], r, _ => by simp [rPidsN]
  | p :: l, r, h => by
    have e := rPid_back (h p (List.mem_cons_self ..)) (l.flatMap pidF ++ r)
    have ih := rPidsN_back (l := l) r (fun q hq => h q (List.mem_cons_of_mem _ hq))
    rw [List.flatMap_cons, List.append_assoc]
    simp only [List.length_cons, rPidsN, e, ih]
    rw [if_neg (by simp)]
theorem rPids_back {l : List Pid} {most : Nat} (r : List Nat) (h : ∀ p ∈ l, okP p) (hl : l.length ≤ most) (hm : most < 18446744073709551616) : rPids most ⟨pidsF l ++ r, 0⟩ = (l, ⟨r, 0⟩) := by
  unfold rPids pidsF
  rw [List.append_assoc]
  simp only [rNum_back hl (by omega), rPidsN_back r h]
  rw [if_neg (by simp), if_neg (by simp)]
theorem rBytes_back {l : List Nat} {most : Nat} (r : List Nat) (hl : l.length ≤ most) (hm : most < 18446744073709551616) : rBytes most ⟨short l.length ++ (l ++ r), 0⟩ = (l, ⟨r, 0⟩) := by
  unfold rBytes
  simp only [rNum_back hl (by omega)]
  rw [if_neg (by simp), if_neg (by simp), if_neg (by simp)]
  simp
theorem atIx_get {ms : List Pid} {p : Pid} (h : p ∈ ms) : 0 ≤ atIx ms p ∧ (atIx ms p).toNat < ms.length ∧ ms.getD (atIx ms p).toNat (0, 0) = p := by
  have key : ∀ (xs : List Pid) (k : Nat), p ∈ xs → ∃ j : Nat, j < xs.length ∧ atFrom p xs k = ((k + j : Nat) : Int) ∧ xs.getD j (0, 0) = p := by
    intro xs
    induction xs with
    | nil => intro k h; cases h
    | cons x r ih =>
      intro k h
      unfold atFrom
      by_cases hx : x = p
      · exact ⟨0, by simp, by rw [if_pos hx]; simp, by simpa using hx⟩
      · rw [if_neg hx]
        have hr : p ∈ r := by
          rcases List.mem_cons.1 h with h | h
          · exact absurd h.symm hx
          · exact h
        obtain ⟨j, h1, h2, h3⟩ := ih (k + 1) hr
        exact ⟨j + 1, by simpa using h1, by rw [h2]; congr 1; omega, by simpa using h3⟩
  obtain ⟨j, h1, h2, h3⟩ := key ms 0 h
  unfold atIx
  rw [h2]
  simp only [Nat.zero_add, Int.toNat_natCast]
  exact ⟨by omega, h1, h3⟩
theorem rPlacesN_back {ms : List Pid} (hm : ms.length < 18446744073709551616) : ∀ {l : List Pid} (r : List Nat), (∀ p ∈ l, p ∈ ms) → rPlacesN ms l.length ⟨l.flatMap (rankF ms) ++ r, 0⟩ = (l, ⟨r, 0⟩)
  | [], r, _ => by simp [rPlacesN]
  | p :: l, r, h => by
    obtain ⟨h0, h1, h2⟩ := atIx_get (h p (List.mem_cons_self ..))
    have ih := rPlacesN_back hm (l := l) r (fun q hq => h q (List.mem_cons_of_mem _ hq))
    have e : rNum (ms.length - 1) ⟨rankF ms p ++ (l.flatMap (rankF ms) ++ r), 0⟩ = ((atIx ms p).toNat, ⟨l.flatMap (rankF ms) ++ r, 0⟩) := rNum_back (by omega) (by omega) _
    have hne : ms ≠ [] := by intro e; subst e; simp at h1
    rw [List.flatMap_cons, List.append_assoc]
    simp only [List.length_cons, rPlacesN, e, ih, h2]
    rw [if_neg (by simp), if_neg hne]
theorem rPlaces_back {ms l : List Pid} (r : List Nat) (hm : ms.length < 18446744073709551616) (hs : ∀ p ∈ l, p ∈ ms) (hl : l.length ≤ 24) : rPlaces ms ⟨placesF ms l ++ r, 0⟩ = (l, ⟨r, 0⟩) := by
  unfold rPlaces placesF
  rw [List.append_assoc]
  simp only [rNum_back hl (by omega), rPlacesN_back hm r hs]
theorem rLeaves_back {ms : List Pid} (hm : ms.length < 18446744073709551616) : ∀ {ls : List (List Pid)} (r : List Nat), (∀ l ∈ ls, (∀ p ∈ l, p ∈ ms) ∧ l.length ≤ 24) → rLeaves ms ls.length ⟨ls.flatMap (placesF ms) ++ r, 0⟩ = (ls, ⟨r, 0⟩)
  | [], r, _ => by simp [rLeaves]
  | l :: ls, r, h => by
    obtain ⟨h1, h2⟩ := h l (List.mem_cons_self ..)
    have ih := rLeaves_back hm (ls := ls) r (fun q hq => h q (List.mem_cons_of_mem _ hq))
    rw [List.flatMap_cons, List.append_assoc]
    simp only [List.length_cons, rLeaves, rPlaces_back _ hm h1 h2, ih]
    rw [if_neg (by simp)]
/-- a view that may be, as far as its form needs it -/
structure Laid (V : View) : Prop where
  id0 : 0 ≤ V.id
  id1 : V.id ≤ 4611686018427387904
  wf : ∀ p ∈ V.ms, okP p
  lm : V.ms.length ≤ 24
  ll : V.ls.length ≤ 24
  le : ∀ l ∈ V.ls, (∀ p ∈ l, p ∈ V.ms) ∧ l.length ≤ 24
  ld : (∀ p ∈ V.ds, p ∈ V.ms) ∧ V.ds.length ≤ 24
theorem rParts_back {V : View} (h : Laid V) (r : List Nat) : rParts ⟨viewF V ++ r, 0⟩ = (V, ⟨r, 0⟩) := by
  unfold rParts viewF
  simp only [List.append_assoc]
  have hi := h.id0
  have hi2 := h.id1
  have hm : V.ms.length < 18446744073709551616 := by have := h.lm; omega
  have hl := h.ll
  simp only [rNum_back (show V.id.toNat ≤ 4611686018427387904 by omega) (by omega), rPids_back _ h.wf h.lm (by decide), rNum_back h.ll (by omega), rLeaves_back hm _ h.le, rPlaces_back _ hm h.ld.1 h.ld.2]
  rw [show ((V.id.toNat : Nat) : Int) = V.id by omega]
theorem rView_back {V : View} (h : Laid V) (hc : refCheckB V = true) (r : List Nat) : rView ⟨viewF V ++ r, 0⟩ = (V, ⟨r, 0⟩) := by
  unfold rView
  simp only [rParts_back h]
  rw [if_neg (by simp), hc]; simp
end Go.Proofs.Ytbpfhclcjedkcaa

namespace Go.Proofs.Ytbpfhclcjedkcaa
open Go.RowKit
/-! ### commands and beats in plain words -/
instance : DecidableEq View := fun a b => by
  obtain ⟨a1, a2, a3, a4⟩ := a
  obtain ⟨b1, b2, b3, b4⟩ := b
  exact decidable_of_iff (a1 = b1 ∧ a2 = b2 ∧ a3 = b3 ∧ a4 = b4) (by simp)
structure CmdD where
  kind : Int
  fr : Pid
  num : Nat
  vw : Nat
  data : List Nat
  v : View
def mayP (p : Pid) : Bool := decide (p.1 < 16) && decide (0 < p.2)
def cntB (n : Nat) : Bool := decide (1 ≤ n) && decide (n ≤ 4611686018427387904)
/-- P9.1: 0: it may be -/
def cmdChk (c : CmdD) : Nat :=
  if c.kind = 1 then (if c.fr = (0, 0) ∧ c.num = 0 ∧ c.vw = 0 ∧ c.data = [] ∧ c.v = zeroV then 0 else 1)
  else if c.kind = 2 then (if mayP c.fr = true ∧ cntB c.num = true ∧ cntB c.vw = true ∧ c.v = zeroV then (if 200 < c.data.length then 14 else 0) else 1)
  else if c.kind = 3 then (if c.fr = (0, 0) ∧ c.num = 0 ∧ c.vw = 0 ∧ c.data = [] ∧ refCheckB c.v = true then 0 else 1)
  else 1
def cmdF (c : CmdD) : List Nat :=
  short c.kind.toNat ++ (if c.kind = 2 then pidF c.fr ++ (short c.num ++ (short c.vw ++ (short c.data.length ++ c.data))) else if c.kind = 3 then viewF c.v else [])
def zeroC : CmdD := ⟨0, (0, 0), 0, 0, [], zeroV⟩
def rCmdParts (s : RS) : CmdD × RS :=
  let k := rNum 3 s
  if k.1 = 2 then
    let f := rPid k.2
    let n := rNum 4611686018427387904 f.2
    let w := rNum 4611686018427387904 n.2
    let d := rBytes 200 w.2
    (⟨(k.1 : Nat), f.1, n.1, w.1, d.1, zeroV⟩, d.2)
  else if k.1 = 3 then (⟨(k.1 : Nat), (0, 0), 0, 0, [], (rView k.2).1⟩, (rView k.2).2)
  else (⟨(k.1 : Nat), (0, 0), 0, 0, [], zeroV⟩, k.2)
def rCmd (s : RS) : CmdD × RS :=
  if (rCmdParts s).2.e ≠ 0 then (zeroC, (rCmdParts s).2)
  else if cmdChk (rCmdParts s).1 ≠ 0 then (zeroC, ⟨(rCmdParts s).2.b, 5⟩)
  else rCmdParts s
/-- data that stand in a command's cells -/
structure CmdWf (c : CmdD) : Prop where
  fr : okP c.fr
  ms : ∀ p ∈ c.v.ms, okP p
theorem rCmd_back {c : CmdD} (hw : CmdWf c) (h : cmdChk c = 0) (hl : refCheckB c.v = true → Laid c.v) (r : List Nat) : rCmd ⟨cmdF c ++ r, 0⟩ = (c, ⟨r, 0⟩) := by
  have h0 := h
  obtain ⟨kind, fr, num, vw, data, v⟩ := c
  have key : rCmdParts ⟨cmdF ⟨kind, fr, num, vw, data, v⟩ ++ r, 0⟩ = (⟨kind, fr, num, vw, data, v⟩, ⟨r, 0⟩) := by
    unfold cmdChk at h
    unfold rCmdParts cmdF
    simp only at h ⊢
    by_cases h1 : kind = 1
    · subst h1
      rw [if_pos rfl] at h
      by_cases g : fr = (0, 0) ∧ num = 0 ∧ vw = 0 ∧ data = [] ∧ v = zeroV
      · obtain ⟨rfl, rfl, rfl, rfl, rfl⟩ := g
        simp only [List.append_assoc, Int.toNat_one]
        rw [rNum_back (by decide) (by decide)]
        simp
      · rw [if_neg g] at h; cases h
    · rw [if_neg h1] at h
      by_cases h2 : kind = 2
      · subst h2
        rw [if_pos rfl] at h
        by_cases g : mayP fr = true ∧ cntB num = true ∧ cntB vw = true ∧ v = zeroV
        · obtain ⟨g1, g2, g3, rfl⟩ := g
          rw [if_pos ⟨g1, g2, g3, rfl⟩] at h
          have hd : data.length ≤ 200 := by
            by_cases hd : 200 < data.length
            · rw [if_pos hd] at h; cases h
            · omega
          unfold cntB at g2 g3
          simp only [Bool.and_eq_true, decide_eq_true_eq] at g2 g3
          rw [if_pos rfl]
          simp only [List.append_assoc]
          rw [show (2 : Int).toNat = 2 from rfl, rNum_back (by decide) (by decide)]
          simp only [if_true]
          rw [rPid_back hw.fr]
          simp only
          rw [rNum_back g2.2 (by omega)]
          simp only
          rw [rNum_back g3.2 (by omega)]
          simp only
          rw [rBytes_back r hd (by decide)]
          rfl
        · rw [if_neg g] at h; cases h
      · rw [if_neg h2] at h
        by_cases h3 : kind = 3
        · subst h3
          rw [if_pos rfl] at h
          by_cases g : fr = (0, 0) ∧ num = 0 ∧ vw = 0 ∧ data = [] ∧ refCheckB v = true
          · obtain ⟨rfl, rfl, rfl, rfl, g⟩ := g
            rw [show (if (3 : Int) = 2 then pidF (0, 0) ++ (short 0 ++ (short 0 ++ (short ([] : List Nat).length ++ []))) else if (3 : Int) = 3 then viewF v else []) = viewF v from by rw [if_neg (by decide), if_pos rfl]]
            simp only [List.append_assoc]
            rw [show (3 : Int).toNat = 3 from rfl, rNum_back (by decide) (by decide)]
            rw [if_neg (by simp), if_pos rfl, rView_back (hl g) g]
            rfl
          · rw [if_neg g] at h; cases h
        · rw [if_neg h3] at h; cases h
  unfold rCmd
  rw [key]
  simp only
  rw [if_neg (by simp), h0]; simp
structure BeatD where
  v : Nat
  ap : Nat
  be : Nat
  st : Nat
  sus : List Pid
def aheadP (p q : Pid) : Bool := decide (p.1 < q.1 ∨ p.1 = q.1 ∧ p.2 < q.2)
def susB : Option Pid → List Pid → Bool
  | _, [] => true
  | pr, p :: l => (mayP p && (match pr with | none => true | some q => aheadP q p)) && susB (some p) l
def beatChk (x : BeatD) : Bool := decide (x.v ≤ 4611686018427387904) && (decide (x.ap ≤ 4611686018427387904) && (decide (x.be ≤ 4611686018427387904) && (decide (x.st ≤ 4611686018427387904) && (decide (x.sus.length ≤ 24) && susB none x.sus))))
def beatF (x : BeatD) : List Nat := short x.v ++ (short x.ap ++ (short x.be ++ (short x.st ++ pidsF x.sus)))
def zeroB : BeatD := ⟨0, 0, 0, 0, []⟩
def rEnd (s : RS) : Nat := if s.e = 0 ∧ 0 < s.b.length then 5 else s.e
def rBeatParts (s : RS) : BeatD × RS :=
  let a := rNum 4611686018427387904 s
  let b := rNum 4611686018427387904 a.2
  let c := rNum 4611686018427387904 b.2
  let d := rNum 4611686018427387904 c.2
  let l := rPids 24 d.2
  (⟨a.1, b.1, c.1, d.1, l.1⟩, l.2)
def rBeat (bs : List Nat) : BeatD × Nat :=
  if rEnd (rBeatParts ⟨bs, 0⟩).2 ≠ 0 then (zeroB, rEnd (rBeatParts ⟨bs, 0⟩).2)
  else if beatChk (rBeatParts ⟨bs, 0⟩).1 = false then (zeroB, 5)
  else ((rBeatParts ⟨bs, 0⟩).1, 0)
theorem rBeat_back {x : BeatD} (hw : ∀ p ∈ x.sus, okP p) (h : beatChk x = true) : rBeat (beatF x) = (x, 0) := by
  have h0 := h
  unfold beatChk at h
  simp only [Bool.and_eq_true, decide_eq_true_eq] at h
  obtain ⟨h1, h2, h3, h4, h5, _⟩ := h
  have key : rBeatParts ⟨beatF x, 0⟩ = (x, ⟨[], 0⟩) := by
    unfold rBeatParts beatF
    have e := rPids_back (l := x.sus) (most := 24) [] hw h5 (by decide)
    rw [List.append_nil] at e
    simp only [rNum_back h1 (by omega), rNum_back h2 (by omega), rNum_back h3 (by omega), rNum_back h4 (by omega), e]
  unfold rBeat
  rw [key]
  simp [rEnd, h0]
end Go.Proofs.Ytbpfhclcjedkcaa

