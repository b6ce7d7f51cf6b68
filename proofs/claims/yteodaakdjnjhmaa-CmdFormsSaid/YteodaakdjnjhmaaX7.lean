import Derived.Test.YteodaakdjnjhmaaX4
namespace Go.Proofs.Yteodaakdjnjhmaa
open Go.RowKit
theorem getShort_is {a : Option Addr} {c n : Nat} {bs : List Nat} {w : World} {x u e : Nat} (h : Hid (getS bs = (x, u, e))) (hn : Hid (bs.length = n)) (hl : n ≤ 70368744177664) (hby : ∀ b ∈ bs, b < 256) (hrow : ByteRow w a bs) :
    Calls Try.prog 162 #[.slice a n c] w fun e' w' => e' = .returned (.tuple #[.int .u64 x, .int .i64 u, .int .i64 e]) ∧ w = w' := by
  have := getShort_any (c := c) (w := w) hn hl hby hrow
  rw [h.out] at this; exact this
theorem getShortR_is {a : Option Addr} {c n : Nat} {bs : List Nat} {w : World} {x u e : Nat} (h : Hid (getS bs = (x, u, e))) (hn : Hid (bs.length = n)) (hl : n ≤ 70368744177664) (hby : ∀ b ∈ bs, b < 256) (hrow : ByteRow w a bs) :
    Calls Try.prog 149 #[.slice a n c] w fun e' w' => e' = .returned (.tuple #[.int .u64 x, .int .i64 u, .int .i64 e]) ∧ w = w' := by
  have := getShortR_any (c := c) (w := w) hn hl hby hrow
  rw [h.out] at this; exact this
theorem putShort_is {a : Option Addr} {c n : Nat} {bs F : List Nat} {w : World} {m : Nat} (hF : Hid (bs ++ short m = F)) (hn : Hid (bs.length = n)) (hl : n ≤ 274877906944) (hm : m < 18446744073709551616) (hrow : ByteRow w a bs) :
    Calls Try.prog 137 #[.slice a n c, .int .u64 m] w fun e w' => ∃ a' c', e = .returned (.slice a' F.length c') ∧ OwnB w' w.heap.size (.slice a' F.length c') F ∧ ByteRow w' a' F ∧ Below w.heap.size w w' := by
  refine (putShort_any (c := c) m hn hl hm hrow).mono ?_
  rintro e w' ⟨v, rfl, hown, hb⟩
  rw [hF.out] at hown
  obtain ⟨a', c', rfl, hr, -⟩ := hown.row
  exact ⟨a', c', rfl, hown, hr, hb⟩
theorem relB {w w0 : World} {K : Nat} {args : Array Value} {Q : Ending → World → Prop} (hb : Below w0.heap.size w0 w) (h : Calls Try.prog K args w fun e w' => Q e w' ∧ Below w.heap.size w w') : Calls Try.prog K args w fun e w' => Q e w' ∧ Below w0.heap.size w0 w' :=
  h.mono fun _ _ ⟨h1, h2⟩ => ⟨h1, hb.trans (h2.mono hb.size)⟩
set_option maxRecDepth 100000 in
set_option maxHeartbeats 1600000 in
theorem pidPut_any {a : Option Addr} {c n : Nat} {bs : List Nat} {w : World} (x y : Nat) (hn : Hid (bs.length = n)) (hl : n ≤ 137438953472) (hx : x < 65536) (hy : y < 4294967296) (hrow : ByteRow w a bs) :
    Calls Try.prog 138 #[.slice a n c, .agg #[.int .u16 x, .int .u32 y]] w fun e w' => ∃ v, e = .returned v ∧ OwnB w' w.heap.size v (bs ++ (short x ++ short y)) ∧ Below w.heap.size w w' := by
  have hB : Below w.heap.size w (w.alloc (.cells #[.int .u16 x, .int .u32 y] 26)) := (Below.refl _ _).alloc (Nat.le_refl _) _
  have hr1 := hrow.ext hB
  have hlx := short_len10 (n := x) (by omega)
  obtain ⟨F, hF⟩ : ∃ F, bs ++ short x = F := ⟨_, rfl⟩
  obtain ⟨NF, hNF⟩ : ∃ NF, F.length = NF := ⟨_, rfl⟩
  have hNFl : NF ≤ n + 10 := by rw [← hNF, ← hF, List.length_append, hn.out]; omega
  have HF2 : Hid (bs ++ (short x ++ short y) = F ++ short y) := hid (by rw [← hF, List.append_assoc])
  have hc0 : (w.alloc (.cells #[.int .u16 x, .int .u32 y] 26)).cell? ⟨w.heap.size, 0, none⟩ = some (.int .u16 x) := by simp
  have hc1 : (w.alloc (.cells #[.int .u16 x, .int .u32 y] 26)).cell? ⟨w.heap.size, 1, none⟩ = some (.int .u32 y) := by simp
  have HF := hid hF
  have HNF := hid hNF
  clear hF hNF
  obtain ⟨w1, hw1⟩ : ∃ w1, w.alloc (.cells #[.int .u16 x, .int .u32 y] 26) = w1 := ⟨_, rfl⟩
  rw [hw1] at hB hr1 hc0 hc1
  have H0 : Below w1.heap.size w1 w1.drew := (Below.refl _ _).drew
  have HS : Hid (∀ W, Below w1.heap.size w1 W → Below w1.heap.size w1 W ∧ W.cell? ⟨w.heap.size, 0, none⟩ = some (.int .u16 x) ∧ W.cell? ⟨w.heap.size, 1, none⟩ = some (.int .u32 y)) := hid fun W h => ⟨h, cell_toB hc0 h, cell_toB hc1 h⟩
  have C1 : Hid (∀ W, Below w1.heap.size w1 W → Calls Try.prog 137 #[.slice a n c, .int .u64 x] W fun e w' => ∃ a' c', e = .returned (.slice a' NF c') ∧ ByteRow w' a' F ∧ Below w1.heap.size w1 w') := hid fun W h => ((putShort_is HF hn (by omega) (by omega) (hr1.ext h)).mono fun e w' ⟨a', c', h1, _, h3, h4⟩ => ⟨a', c', by rw [← HNF.out]; exact h1, h3, h.trans (h4.mono h.size)⟩)
  have C2 : Hid (∀ W a' c', Below w1.heap.size w1 W → ByteRow W a' F → Calls Try.prog 137 #[.slice a' NF c', .int .u64 y] W fun e w' => ∃ v, e = .returned v ∧ OwnB w' w1.heap.size v (F ++ short y) ∧ Below w1.heap.size w1 w') := hid fun W a' c' h hr => ((putShort_any y HNF (by omega) (by omega) hr).mono fun e w' ⟨v, h1, h3, h4⟩ => ⟨v, h1, h3.mono h.size, h.trans (h4.mono h.size)⟩)
  clear hr1 hc0 hc1 hrow
  have ew1 : IntKind.u64.wrap ((x : Nat) : Int) = ((x : Nat) : Int) := by rw [IntKind.wrap_u64]; omega
  have ew2 : IntKind.u64.wrap ((y : Nat) : Int) = ((y : Nat) : Int) := by rw [IntKind.wrap_u64]; omega
  go_enter Try.func138, Try.ntmps138
  go_wp2
  go_region_held3 (fun W => Below w1.heap.size w1 W ∧ W.cell? ⟨w.heap.size, 0, none⟩ = some (.int .u16 x) ∧ W.cell? ⟨w.heap.size, 1, none⟩ = some (.int .u32 y)) (first | exact HS.out _ H0 | exact HS.out _ (by assumption)) (first
    | ((go_at_call 137; (with_reducible refine (C1.out _ (by first | exact H0 | assumption)).mono ?_); rintro e w11 ⟨a11, c11, rfl, hrow11, hb11⟩))
    | ((go_at_call 137; (with_reducible refine (C2.out _ _ _ (by assumption) (by assumption)).mono ?_); rintro e w12 ⟨v12, rfl, hown12, hb12⟩)))
  all_goals (
    clear ew1 ew2
    go_wp2
    go_ret
    exact ⟨_, rfl, by rw [HF2.out]; exact hown12.mono hB.size, hB.trans (hb12.mono hB.size)⟩)
end Go.Proofs.Yteodaakdjnjhmaa
