import Derived.Test.YtbpfhclcjedkcaaXE
import Derived.Deep.RegionWith
import Derived.Deep.RegionHeld3
namespace Go.Proofs.Ytbpfhclcjedkcaa
open Go.RowKit
set_option maxRecDepth 100000 in
set_option maxHeartbeats 1600000 in
theorem getShortR_any {a : Option Addr} {c n : Nat} {bs : List Nat} {w : World} (hn : Hid (bs.length = n)) (hl : n ≤ 70368744177664) (hby : ∀ b ∈ bs, b < 256) (hrow : ByteRow w a bs) :
    Calls Try.prog 196 #[.slice a n c] w fun e w' => e = .returned (triV (getS bs)) ∧ w = w' := by
  obtain ⟨G, hG⟩ : ∃ G, getS bs = G := ⟨_, rfl⟩
  rw [hG]
  have HG : Hid (G = getFrom 0 0 bs) := hid hG.symm
  have HBY := hid hby
  clear hG hby
  go_enter Try.func196, Try.ntmps196
  go_wp2
  go_loop [5, 6, 7] (fun v u i => ∃ k m P : Nat, k ≤ n ∧ k ≤ 9 ∧ m < P ∧ Hid (P = 128 ^ k) ∧ v = .int .u64 m ∧ u = .int .u64 P ∧ i = .int .i64 k ∧ Hid (G = getFrom k m (bs.drop k))) (fun _ _ i => n - (intOf i).toNat)
  case atStart => exact ⟨0, 0, 1, by omega, by omega, by omega, rfl, rfl, rfl, rfl, HG⟩
  case round =>
    obtain ⟨k, m, P, hk, hk9, hm, hP, rfl, rfl, rfl, hM⟩ := hrel
    by_cases hlt : k < n
    · have hlt' : decide (k < n) = true := by simpa using hlt
      have hlt2 : decide ((k : Int) < 10) = true := by simp; omega
      have hlt3 : decide (k < 10) = true := by simp; omega
      have hkb : k < bs.length := by rw [hn.out]; exact hlt
      obtain ⟨pb, po, x, rfl, hx, d1⟩ := hrow.at (Below.refl _ _) rfl hkb
      have hx256 : x < 256 := HBY.out x (by rw [hx]; exact List.getElem_mem _)
      have HGD := hid (getFrom_drop (i := k) (n := m) hkb hx)
      have HM := hid hm
      have hP9 : P ≤ 9223372036854775808 := by rw [hP.out]; exact pow128_9 hk9
      clear hx
      by_cases hA : k = 9 ∧ 1 < x
      · have HE : Hid (G = (0, 0, 5)) := hid (by rw [hM.out, HGD.out, if_pos hA])
        obtain ⟨h9, h1x⟩ := hA
        subst h9
        have t4 : decide (1 < x) = true := by simpa using h1x
        go_wp2
        exact bodyPost_ret (v := .tuple #[.int .u64 0, .int .i64 0, .int .i64 5]) (by simp [results, Try.results196, go_sem]) rfl ⟨(triV_ret (x := 0) (y := 0) (z := 5) HE (by decide) (by decide) (by decide)).symm, rfl⟩
      · have hx1 : k = 9 → x ≤ 1 := fun h => by
          by_cases h1 : 1 < x
          · exact absurd ⟨h, h1⟩ hA
          · omega
        have hb2 := part_bound (c := x) hk9 (by rw [← hP.out]; exact hm) hx1
        have hnx := part_next (c := x) (i := k) (n := m) (by rw [← hP.out]; exact hm)
        rw [← hP.out] at hb2
        rw [← hP.out] at hnx HGD
        obtain ⟨Y, hY⟩ : ∃ Y, x % 128 * P = Y := ⟨_, rfl⟩
        rw [hY] at hb2 hnx HGD
        obtain ⟨hb1, hb2⟩ := hb2
        have eY : ((x : Int) % 128) * (P : Int) = ((Y : Nat) : Int) := by rw [← hY]; simp
        have HA := hid hA
        have HNX := hid hnx
        clear hY hA hnx
        by_cases h9 : k = 9
        · obtain rfl : k = 9 := h9
          have hx1' := hx1 rfl
          clear hx1
          rcases (show x = 0 ∨ x = 1 by omega) with rfl | rfl
          · have HE : Hid (G = (0, 0, 5)) := hid (by rw [hM.out, HGD.out, if_neg HA.out, if_pos (by decide), if_pos (by decide)])
            go_wp2
            exact bodyPost_ret (v := .tuple #[.int .u64 0, .int .i64 0, .int .i64 5]) (by simp [results, Try.results196, go_sem]) rfl ⟨(triV_ret (x := 0) (y := 0) (z := 5) HE (by decide) (by decide) (by decide)).symm, rfl⟩
          · have HE : Hid (G = (m + Y, 10, 0)) := hid (by rw [hM.out, HGD.out, if_neg HA.out, if_pos (by decide), if_neg (by decide)])
            have eY' : (P : Int) = (Y : Int) := by simpa using eY
            obtain rfl : P = Y := by omega
            clear eY eY'
            go_wp2
            exact bodyPost_ret (v := .tuple #[.int .u64 ((m : Int) + (P : Int)), .int .i64 (10), .int .i64 0]) (by simp [results, Try.results196, go_sem]) rfl ⟨(triV_ret (x := (m : Int) + (P : Int)) (y := 10) (z := 0) (hid (by rw [HE.out]; simp <;> omega)) (by omega) (by omega) (by decide)).symm, rfl⟩
        · have H9 := hid h9
          have t1 : decide (k = 9) = false := by simpa using h9
          have t2 : decide ((k : Int) = 9) = false := by simp; omega
          have t3 : ((k : Int) == 9) = false := by simp; omega
          clear h9
          have hP8 : P ≤ 72057594037927936 := by
            have h1 : (128 : Nat) ^ k ≤ 128 ^ 8 := Nat.pow_le_pow_right (by decide) (by have := H9.out; omega)
            have e : (128 : Nat) ^ 8 = 72057594037927936 := by decide
            rw [hP.out]; omega
          clear hx1
          by_cases hB : x < 128
          · have t4 : decide (x < 128) = true := by simpa using hB
            by_cases hx0 : x = 0
            · subst hx0
              have eY0 : Y = 0 := by simp at eY; omega
              subst eY0
              clear eY
              by_cases hk0 : 0 < k
              · have t5 : decide (0 < k) = true := by simpa using hk0
                have HE : Hid (G = (0, 0, 5)) := hid (by rw [hM.out, HGD.out, if_neg HA.out, if_pos hB, if_pos ⟨rfl, hk0⟩])
                go_wp2
                exact bodyPost_ret (v := .tuple #[.int .u64 0, .int .i64 0, .int .i64 5]) (by simp [results, Try.results196, go_sem]) rfl ⟨(triV_ret (x := 0) (y := 0) (z := 5) HE (by decide) (by decide) (by decide)).symm, rfl⟩
              · have t5 : decide (0 < k) = false := by simpa using hk0
                have HE : Hid (G = (m + 0, k + 1, 0)) := hid (by rw [hM.out, HGD.out, if_neg HA.out, if_pos hB, if_neg (fun h => hk0 h.2)])
                go_wp2
                exact bodyPost_ret (v := .tuple #[.int .u64 ((m : Int)), .int .i64 ((k : Int) + 1), .int .i64 0]) (by simp [results, Try.results196, go_sem]) rfl ⟨(triV_ret (x := (m : Int)) (y := (k : Int) + 1) (z := 0) (hid (by rw [HE.out]; simp <;> omega)) (by omega) (by omega) (by decide)).symm, rfl⟩
            · have t6 : decide (x = 0) = false := by simpa using hx0
              have t7 : decide ((x : Int) = 0) = false := by simp; omega
              have t8 : ((x : Int) == 0) = false := by simp; omega
              have HE : Hid (G = (m + Y, k + 1, 0)) := hid (by rw [hM.out, HGD.out, if_neg HA.out, if_pos hB, if_neg (fun h => hx0 h.1)])
              go_wp2
              exact bodyPost_ret (v := .tuple #[.int .u64 ((m : Int) + (Y : Int)), .int .i64 ((k : Int) + 1), .int .i64 0]) (by simp [results, Try.results196, go_sem]) rfl ⟨(triV_ret (x := (m : Int) + (Y : Int)) (y := (k : Int) + 1) (z := 0) (hid (by rw [HE.out]; simp <;> omega)) (by omega) (by omega) (by decide)).symm, rfl⟩
          · have t4 : decide (x < 128) = false := by simpa using hB
            have hM2 : Hid (G = getFrom (k + 1) (m + Y) (bs.drop (k + 1))) := hid (by rw [hM.out, HGD.out, if_neg HA.out, if_neg hB])
            go_wp2
            go_round
            case rel => exact ⟨k + 1, m + Y, P * 128, by omega, by have := H9.out; omega, by rw [hP.out, ← Nat.pow_succ]; exact HNX.out, hid (by rw [hP.out, Nat.pow_succ]), by go_num, by go_num, by go_num, hM2⟩
            case measure => simp [intOf]; omega
    · have HE : Hid (G = (0, 0, 2)) := hid (by rw [hM.out, List.drop_eq_nil_of_le (by rw [hn.out]; omega)]; rfl)
      have hlt' : decide (k < n) = false := by simpa using hlt
      go_wp2
      exact bodyPost_ret (v := .tuple #[.int .u64 0, .int .i64 0, .int .i64 2]) (by simp [results, Try.results196, go_sem]) rfl ⟨(triV_ret (x := 0) (y := 0) (z := 2) HE (by decide) (by decide) (by decide)).symm, rfl⟩
end Go.Proofs.Ytbpfhclcjedkcaa
namespace Go.Proofs.Ytbpfhclcjedkcaa
open Go.RowKit
theorem getShort_is {a : Option Addr} {c n : Nat} {bs : List Nat} {w : World} {x u e : Nat} (h : Hid (getS bs = (x, u, e))) (hn : Hid (bs.length = n)) (hl : n ≤ 70368744177664) (hby : ∀ b ∈ bs, b < 256) (hrow : ByteRow w a bs) :
    Calls Try.prog 230 #[.slice a n c] w fun e' w' => e' = .returned (.tuple #[.int .u64 x, .int .i64 u, .int .i64 e]) ∧ w = w' := by
  have := getShort_any (c := c) (w := w) hn hl hby hrow
  rw [h.out] at this; exact this
theorem getShortR_is {a : Option Addr} {c n : Nat} {bs : List Nat} {w : World} {x u e : Nat} (h : Hid (getS bs = (x, u, e))) (hn : Hid (bs.length = n)) (hl : n ≤ 70368744177664) (hby : ∀ b ∈ bs, b < 256) (hrow : ByteRow w a bs) :
    Calls Try.prog 196 #[.slice a n c] w fun e' w' => e' = .returned (.tuple #[.int .u64 x, .int .i64 u, .int .i64 e]) ∧ w = w' := by
  have := getShortR_any (c := c) (w := w) hn hl hby hrow
  rw [h.out] at this; exact this
theorem putShort_is {a : Option Addr} {c n : Nat} {bs F : List Nat} {w : World} {m : Nat} (hF : Hid (bs ++ short m = F)) (hn : Hid (bs.length = n)) (hl : n ≤ 274877906944) (hm : m < 18446744073709551616) (hrow : ByteRow w a bs) :
    Calls Try.prog 181 #[.slice a n c, .int .u64 m] w fun e w' => ∃ a' c', e = .returned (.slice a' F.length c') ∧ OwnB w' w.heap.size (.slice a' F.length c') F ∧ ByteRow w' a' F ∧ Below w.heap.size w w' := by
  refine (putShort_any (c := c) m hn hl hm hrow).mono ?_
  rintro e w' ⟨v, rfl, hown, hb⟩
  rw [hF.out] at hown
  obtain ⟨a', c', rfl, hr, -⟩ := hown.row
  exact ⟨a', c', rfl, hown, hr, hb⟩
theorem relB {w w0 : World} {K : Nat} {args : Array Value} {Q : Ending → World → Prop} (hb : Below w0.heap.size w0 w) (h : Calls Try.prog K args w fun e w' => Q e w' ∧ Below w.heap.size w w') : Calls Try.prog K args w fun e w' => Q e w' ∧ Below w0.heap.size w0 w' :=
  h.mono fun _ _ ⟨h1, h2⟩ => ⟨h1, hb.trans (h2.mono hb.size)⟩
set_option maxRecDepth 100000 in
set_option maxHeartbeats 1600000 in
theorem pidPut_any {a : Option Addr} {c n : Nat} {bs : List Nat} {w : World} (x y : Nat) (hn : Hid (bs.length = n)) (hl : n ≤ 137438953472) (hx : x < 65536) (hy : y < 4294967296) (hrow : ByteRow w a bs) :
    Calls Try.prog 182 #[.slice a n c, .agg #[.int .u16 x, .int .u32 y]] w fun e w' => ∃ v, e = .returned v ∧ OwnB w' w.heap.size v (bs ++ (short x ++ short y)) ∧ Below w.heap.size w w' := by
  have hB : Below w.heap.size w (w.alloc (.cells #[.int .u16 x, .int .u32 y] 26)) := (Below.refl _ _).alloc (Nat.le_refl _) _
  have hr1 := hrow.ext hB
  have hlx := short_len10 (n := x) (by omega)
  obtain ⟨F, hF⟩ : ∃ F, bs ++ short x = F := ⟨_, rfl⟩
  obtain ⟨NF, hNF⟩ : ∃ NF, F.length = NF := ⟨_, rfl⟩
  have hNFl : NF ≤ n + 10 := by rw [← hNF, ← hF, List.length_append, hn.out]; omega
  have HF2 : Hid (bs ++ (short x ++ short y) = F ++ short y) := hid (by rw [← hF, List.append_assoc])
  have hc0 : (w.alloc (.cells #[.int .u16 x, .int .u32 y] 26)).cell? ⟨w.heap.size, 0, none⟩ = some (.int .u16 x) := by simp
  have hc1 : (w.alloc (.cells #[.int .u16 x, .int .u32 y] 26)).cell? ⟨w.heap.size, 1, none⟩ = some (.int .u32 y) := by simp
  have HF := hid hF
  have HNF := hid hNF
  clear hF hNF
  obtain ⟨w1, hw1⟩ : ∃ w1, w.alloc (.cells #[.int .u16 x, .int .u32 y] 26) = w1 := ⟨_, rfl⟩
  rw [hw1] at hB hr1 hc0 hc1
  have H0 : Below w1.heap.size w1 w1.drew := (Below.refl _ _).drew
  have HS : Hid (∀ W, Below w1.heap.size w1 W → Below w1.heap.size w1 W ∧ W.cell? ⟨w.heap.size, 0, none⟩ = some (.int .u16 x) ∧ W.cell? ⟨w.heap.size, 1, none⟩ = some (.int .u32 y)) := hid fun W h => ⟨h, cell_toB hc0 h, cell_toB hc1 h⟩
  have C1 : Hid (∀ W, Below w1.heap.size w1 W → Calls Try.prog 181 #[.slice a n c, .int .u64 x] W fun e w' => ∃ a' c', e = .returned (.slice a' NF c') ∧ ByteRow w' a' F ∧ Below w1.heap.size w1 w') := hid fun W h => ((putShort_is HF hn (by omega) (by omega) (hr1.ext h)).mono fun e w' ⟨a', c', h1, _, h3, h4⟩ => ⟨a', c', by rw [← HNF.out]; exact h1, h3, h.trans (h4.mono h.size)⟩)
  have C2 : Hid (∀ W a' c', Below w1.heap.size w1 W → ByteRow W a' F → Calls Try.prog 181 #[.slice a' NF c', .int .u64 y] W fun e w' => ∃ v, e = .returned v ∧ OwnB w' w1.heap.size v (F ++ short y) ∧ Below w1.heap.size w1 w') := hid fun W a' c' h hr => ((putShort_any y HNF (by omega) (by omega) hr).mono fun e w' ⟨v, h1, h3, h4⟩ => ⟨v, h1, h3.mono h.size, h.trans (h4.mono h.size)⟩)
  clear hr1 hc0 hc1 hrow
  have ew1 : IntKind.u64.wrap ((x : Nat) : Int) = ((x : Nat) : Int) := by rw [IntKind.wrap_u64]; omega
  have ew2 : IntKind.u64.wrap ((y : Nat) : Int) = ((y : Nat) : Int) := by rw [IntKind.wrap_u64]; omega
  go_enter Try.func182, Try.ntmps182
  go_wp2
  go_region_held3 (fun W => Below w1.heap.size w1 W ∧ W.cell? ⟨w.heap.size, 0, none⟩ = some (.int .u16 x) ∧ W.cell? ⟨w.heap.size, 1, none⟩ = some (.int .u32 y)) (first | exact HS.out _ H0 | exact HS.out _ (by assumption)) (first
    | ((go_at_call 181; (with_reducible refine (C1.out _ (by first | exact H0 | assumption)).mono ?_); rintro e w11 ⟨a11, c11, rfl, hrow11, hb11⟩))
    | ((go_at_call 181; (with_reducible refine (C2.out _ _ _ (by assumption) (by assumption)).mono ?_); rintro e w12 ⟨v12, rfl, hown12, hb12⟩)))
  all_goals (
    clear ew1 ew2
    go_wp2
    go_ret
    exact ⟨_, rfl, by rw [HF2.out]; exact hown12.mono hB.size, hB.trans (hb12.mono hB.size)⟩)
end Go.Proofs.Ytbpfhclcjedkcaa
namespace Go.Proofs.Ytbpfhclcjedkcaa
open Go.RowKit
theorem step_appendB {w : World} {o : Oper} {a : Go.Act} {K : Go.Act → World → Prop} {Q : Exit → Go.Act → World → Prop} {y : Nat → Option Bool} {s x : Operand} {base : Nat} {v : Value} {xs ys : List Nat} {ad : Option Addr} {n c : Nat} (hw : Region.wanted o y = true) (hown : OwnB w base v xs) (hy : ByteRow w ad ys) (hn : Hid (ys.length = n))
    (hlen : xs.length + n ≤ 1099511627776) (hbase : base ≤ w.heap.size)
    (ho : o.op = .call { callee := .builtin .append, args := #[s, x], argTypes := #[42, 42] }) (hs : a.eval s = v) (hx : a.eval x = .slice ad n c)
    (h : ∀ v' w', OwnB w' base v' (xs ++ ys) → w.grownBy w' v.ownBlock → K (a.put o.dst v') w') : if Region.wanted o y = true then Oper.wp Try.prog o a w K Q else K (a.put o.dst undef) w := by
  rw [if_pos hw]
  have hn := hn.out; subst hn
  obtain ⟨v', w', hr, h2, h3, h4⟩ := run_appendB hown (c := c) hy hlen hbase o.type
  exact Lib.wp_append_run w s x 42 42 ho _ _ hs hx v' w' hr (h v' w' h2 h3)
theorem shortR_is {w : World} {m N : Nat} {F : List Nat} (hF : Hid (short m = F)) (hN : Hid (F.length = N)) (hm : m < 18446744073709551616) :
    Calls Try.prog 187 #[.int .u64 m] w fun e w' => ∃ a' c', e = .returned (.slice a' N c') ∧ OwnB w' w.heap.size (.slice a' N c') F ∧ ByteRow w' a' F ∧ Below w.heap.size w w' := by
  refine (shortR_any m hm).mono ?_
  rintro e w' ⟨v, rfl, hown, hb⟩
  rw [hF.out] at hown
  obtain ⟨a', c', rfl, hr, -⟩ := hown.row
  rw [hN.out] at *
  exact ⟨a', c', rfl, hown, hr, hb⟩
set_option maxRecDepth 100000 in
set_option maxHeartbeats 1600000 in
theorem pidPutR_any {w : World} (x y : Nat) (hx : x < 65536) (hy : y < 4294967296) :
    Calls Try.prog 108 #[.agg #[.int .u16 x, .int .u32 y]] w fun e w' => ∃ v, e = .returned v ∧ OwnB w' w.heap.size v (short x ++ short y) ∧ Below w.heap.size w w' := by
  have hB : Below w.heap.size w (w.alloc (.cells #[.int .u16 x, .int .u32 y] 26)) := (Below.refl _ _).alloc (Nat.le_refl _) _
  have hlx := short_len10 (n := x) (by omega)
  have hly := short_len10 (n := y) (by omega)
  obtain ⟨X, hX⟩ : ∃ F, short x = F := ⟨_, rfl⟩
  obtain ⟨Y, hY⟩ : ∃ F, short y = F := ⟨_, rfl⟩
  obtain ⟨NX, hNX⟩ : ∃ N, X.length = N := ⟨_, rfl⟩
  obtain ⟨NY, hNY⟩ : ∃ N, Y.length = N := ⟨_, rfl⟩
  rw [hX] at hlx
  rw [hY] at hly
  have hlX : X.length ≤ 10 := hlx
  have hlY : NY ≤ 10 := by omega
  rw [hX, hY]
  have hc0 : (w.alloc (.cells #[.int .u16 x, .int .u32 y] 26)).cell? ⟨w.heap.size, 0, none⟩ = some (.int .u16 x) := by simp
  have hc1 : (w.alloc (.cells #[.int .u16 x, .int .u32 y] 26)).cell? ⟨w.heap.size, 1, none⟩ = some (.int .u32 y) := by simp
  have HX := hid hX
  have HY := hid hY
  have HNX := hid hNX
  have HNY := hid hNY
  clear hX hY hNX hNY hlx hly
  obtain ⟨w1, hw1⟩ : ∃ w1, w.alloc (.cells #[.int .u16 x, .int .u32 y] 26) = w1 := ⟨_, rfl⟩
  rw [hw1] at hB hc0 hc1
  have H0 : Below w1.heap.size w1 w1.drew := (Below.refl _ _).drew
  have HS : Hid (∀ W, Below w1.heap.size w1 W → Below w1.heap.size w1 W ∧ W.cell? ⟨w.heap.size, 0, none⟩ = some (.int .u16 x) ∧ W.cell? ⟨w.heap.size, 1, none⟩ = some (.int .u32 y)) := hid fun W h => ⟨h, cell_toB hc0 h, cell_toB hc1 h⟩
  have C1 : Hid (∀ W, Below w1.heap.size w1 W → Calls Try.prog 187 #[.int .u64 x] W fun e w' => ∃ a' c', e = .returned (.slice a' NX c') ∧ OwnB w' w1.heap.size (.slice a' NX c') X ∧ Below w1.heap.size w1 w') := hid fun W h => ((shortR_is HX HNX (by omega)).mono fun e w' ⟨a', c', h1, h2, _, h4⟩ => ⟨a', c', h1, h2.mono h.size, h.trans (h4.mono h.size)⟩)
  have C2 : Hid (∀ W, Below w1.heap.size w1 W → Calls Try.prog 187 #[.int .u64 y] W fun e w' => ∃ a' c', e = .returned (.slice a' NY c') ∧ ByteRow w' a' Y ∧ Below W.heap.size W w' ∧ Below w1.heap.size w1 w') := hid fun W h => ((shortR_is HY HNY (by omega)).mono fun e w' ⟨a', c', h1, _, h3, h4⟩ => ⟨a', c', h1, h3, h4, h.trans (h4.mono h.size)⟩)
  clear hc0 hc1
  have ew1 : IntKind.u64.wrap ((x : Nat) : Int) = ((x : Nat) : Int) := by rw [IntKind.wrap_u64]; omega
  have ew2 : IntKind.u64.wrap ((y : Nat) : Int) = ((y : Nat) : Int) := by rw [IntKind.wrap_u64]; omega
  have EW1 := hid ew1
  go_enter Try.func108, Try.ntmps108
  go_wp2
  go_region_held3 (fun W => Below w1.heap.size w1 W ∧ W.cell? ⟨w.heap.size, 0, none⟩ = some (.int .u16 x) ∧ W.cell? ⟨w.heap.size, 1, none⟩ = some (.int .u32 y)) (first | exact HS.out _ H0 | exact HS.out _ (by assumption)) (first
    | ((go_at_call 187; (with_reducible refine (C1.out _ (by exact H0)).mono ?_); rintro e w11 ⟨a11, c11, rfl, hown11, hb11⟩))
    | ((go_at_call 187; (with_reducible refine (C2.out _ hb11).mono ?_); rintro e w12 ⟨a12, c12, rfl, hrow12, hbb12, hb12⟩))
    | ((refine step_appendB (by rfl) (hown11.ext hbb12) hrow12 HNY (by clear ew1 ew2; omega) hb12.size rfl rfl rfl ?_; intro v13 w13 hown13 hg13; have hb13 : Below w1.heap.size w1 w13 := below_of_grown hb12 hg13 (hown11.ext hbb12) hb12.size (Nat.le_refl _))))
  all_goals (
    clear ew1 ew2
    go_wp2
    go_ret
    exact ⟨_, rfl, hown13.mono hB.size, hB.trans (hb13.mono hB.size)⟩)
theorem run_fromB {a : Option Addr} {n c k : Nat} (h : k ≤ n) (W : World) : (Instr.slice 42 (.slice a n c) (some (.int .i64 k)) none none).run Try.prog W = .ok (.slice (if c = k then a else a.map (·.add (k * 1))) (n - k) (c - k)) W := by
  have hs : ∀ W, (sizeOf 5).run Try.prog W = .ok 1 W := fun W => Try.sizeOf5 W
  simp [Instr.slice, run_underlying Try.underlying42, Instr.sliceBounds, run_sliceBound, hs, Result.andThen, h]
theorem ByteRow.cut {w : World} {a : Option Addr} {bs : List Nat} (h : ByteRow w a bs) {k c : Nat} (hc : bs.length ≤ c) : ByteRow w (if c = k then a else a.map (·.add (k * 1))) (bs.drop k) := by
  by_cases hk : k < bs.length
  · rw [if_neg (by omega)]
    rcases h with rfl | ⟨b, off, rfl, hb, hcell⟩
    · simp at hk
    · refine .inr ⟨b, off + k, by simp [addr_addB], hb, fun i hi => ?_⟩
      simp only [List.length_drop] at hi
      have := hcell (k + i) (by omega)
      rw [List.getElem_drop, show off + k + i = off + (k + i) by omega]
      exact this
  · rw [List.drop_eq_nil_of_le (by omega)]; exact .inl rfl
/-- the three results of a process's reading -/
def pidT (q : Pid × Nat × Nat) : Value := .tuple #[.agg #[.int .u16 q.1.1, .int .u32 q.1.2], .int .i64 q.2.1, .int .i64 q.2.2]

set_option maxRecDepth 100000 in
set_option maxHeartbeats 3200000 in
theorem pidGet_any {a : Option Addr} {c n : Nat} {bs : List Nat} {w : World} (hn : Hid (bs.length = n)) (hc : n ≤ c) (hl : n ≤ 70368744177664) (hby : ∀ b ∈ bs, b < 256) (hrow : ByteRow w a bs) :
    Calls Try.prog 231 #[.slice a n c] w fun e w' => e = .returned (pidT (getP bs)) ∧ Below w.heap.size w w' := by
  have hB : Below w.heap.size w (w.alloc (.cells #[.int .u16 0, .int .u32 0] 26)) := (Below.refl _ _).alloc (Nat.le_refl _) _
  have hr1 := hrow.ext hB
  obtain ⟨⟨x1, u1, e1⟩, hG1⟩ : ∃ q, getS bs = q := ⟨_, rfl⟩
  have HG1 := hid hG1
  have hok1 := getFrom_ok bs 0 0 (by decide) (by decide)
  rw [show getFrom 0 0 bs = getS bs from rfl, hG1] at hok1
  simp only at hok1
  have HBY := hid hby
  by_cases he1 : e1 = 0
  · subst he1
    obtain ⟨q1, q2, q3, q4⟩ := hok1 rfl
    have hu1 : u1 ≤ n := by rw [← hn.out]; omega
    obtain ⟨A1, hA1⟩ : ∃ A, (if c = u1 then a else a.map (·.add (u1 * 1))) = A := ⟨_, rfl⟩
    have hrun := fun W => run_fromB (a := a) (c := c) hu1 W
    have hr2 := hr1.cut (k := u1) (c := c) (by rw [hn.out]; exact hc)
    rw [hA1] at hr2
    simp only [hA1] at hrun
    obtain ⟨n2, hn2⟩ : ∃ n2, n - u1 = n2 := ⟨_, rfl⟩
    obtain ⟨c2, hc2⟩ : ∃ c2, c - u1 = c2 := ⟨_, rfl⟩
    simp only [hn2, hc2] at hrun
    have hnd : Hid ((bs.drop u1).length = n2) := hid (by rw [List.length_drop, hn.out, hn2])
    have hby2 : ∀ b ∈ bs.drop u1, b < 256 := fun b hb => HBY.out b (List.mem_of_mem_drop hb)
    obtain ⟨⟨x2, u2, e2⟩, hG2⟩ : ∃ q, getS (bs.drop u1) = q := ⟨_, rfl⟩
    have HG2 := hid hG2
    have hok2 := getFrom_ok (bs.drop u1) 0 0 (by decide) (by decide)
    rw [show getFrom 0 0 (bs.drop u1) = getS (bs.drop u1) from rfl, hG2] at hok2
    simp only at hok2
    have hn2l : n2 ≤ 70368744177664 := by omega
    have HBY2 := hid hby2
    have HN2 := hid hn2
    clear hA1 hn2 hc2 hby2 hG1 hG2 hok1 hby
    by_cases he2 : e2 = 0
    · subst he2
      obtain ⟨p1, p2, p3, p4⟩ := hok2 rfl
      rw [hnd.out] at p3
      clear hok2
      by_cases hb1 : 65535 < x1
      · have HE : Hid (getP bs = ((0, 0), 0, 5)) := hid (by unfold getP; simp only [HG1.out, HG2.out]; rw [if_neg (by simp), if_neg (by simp), if_pos (.inl hb1)])
        have t1 : decide (65535 < x1) = true := by simpa using hb1
        have t1' : decide ((65535 : Int) < x1) = true := by simp; omega
        go_enter Try.func231, Try.ntmps231
        go_wp2_with (first
          | (go_at_call 230; (with_reducible refine (getShort_is HG1 hn hl HBY.out hr1).mono ?_); rintro e w' ⟨rfl, rfl⟩)
          | (go_at_call 230; (with_reducible refine (getShort_is HG2 hnd hn2l HBY2.out hr2).mono ?_); rintro e w' ⟨rfl, rfl⟩))
        exact bodyPost_ret (v := .tuple #[.agg #[.int .u16 0, .int .u32 0], .int .i64 0, .int .i64 5]) (by simp [results, Try.results231, go_sem]) rfl ⟨by rw [HE.out]; rfl, (Below.refl _ _).alloc (Nat.le_refl _) _⟩
      · have t1 : decide (65535 < x1) = false := by simpa using hb1
        have t1' : decide ((65535 : Int) < x1) = false := by simp; omega
        by_cases hb2 : 4294967295 < x2
        · have HE : Hid (getP bs = ((0, 0), 0, 5)) := hid (by unfold getP; simp only [HG1.out, HG2.out]; rw [if_neg (by simp), if_neg (by simp), if_pos (.inr hb2)])
          have t2 : decide (4294967295 < x2) = true := by simpa using hb2
          have t2' : decide ((4294967295 : Int) < x2) = true := by simp; omega
          go_enter Try.func231, Try.ntmps231
          go_wp2_with (first
            | (go_at_call 230; (with_reducible refine (getShort_is HG1 hn hl HBY.out hr1).mono ?_); rintro e w' ⟨rfl, rfl⟩)
            | (go_at_call 230; (with_reducible refine (getShort_is HG2 hnd hn2l HBY2.out hr2).mono ?_); rintro e w' ⟨rfl, rfl⟩))
          exact bodyPost_ret (v := .tuple #[.agg #[.int .u16 0, .int .u32 0], .int .i64 0, .int .i64 5]) (by simp [results, Try.results231, go_sem]) rfl ⟨by rw [HE.out]; rfl, (Below.refl _ _).alloc (Nat.le_refl _) _⟩
        · have t2 : decide (4294967295 < x2) = false := by simpa using hb2
          have t2' : decide ((4294967295 : Int) < x2) = false := by simp; omega
          have HE : Hid (getP bs = ((((x1 : Nat) : Int), ((x2 : Nat) : Int)), u1 + u2, 0)) := hid (by unfold getP; simp only [HG1.out, HG2.out]; rw [if_neg (by simp), if_neg (by simp), if_neg (by omega)])
          have m1 : (x1 : Int) % 65536 = x1 := by omega
          have m2 : (x2 : Int) % 4294967296 = x2 := by omega
          go_enter Try.func231, Try.ntmps231
          go_wp2_with (first
            | (go_at_call 230; (with_reducible refine (getShort_is HG1 hn hl HBY.out hr1).mono ?_); rintro e w' ⟨rfl, rfl⟩)
            | (go_at_call 230; (with_reducible refine (getShort_is HG2 hnd hn2l HBY2.out hr2).mono ?_); rintro e w' ⟨rfl, rfl⟩))
          exact bodyPost_ret (v := .tuple #[.agg #[.int .u16 (x1 : Nat), .int .u32 (x2 : Nat)], .int .i64 ((u1 : Int) + (u2 : Int)), .int .i64 0]) (by simp [results, Try.results231, go_sem]) rfl ⟨by rw [HE.out]; rfl, (Below.refl _ _).alloc (Nat.le_refl _) _⟩
    · have HE : Hid (getP bs = ((0, 0), 0, e2)) := hid (by unfold getP; simp only [HG1.out, HG2.out]; rw [if_neg (by simp), if_pos he2])
      have t1 : decide (e2 = 0) = false := by simpa using he2
      have t2 : decide ((e2 : Int) = 0) = false := by simp; omega
      have t3 : ((e2 : Int) == 0) = false := by simp; omega
      have t4 : ((e2 : Int) != 0) = true := by simp; omega
      clear hok2
      go_enter Try.func231, Try.ntmps231
      go_wp2_with (first
        | (go_at_call 230; (with_reducible refine (getShort_is HG1 hn hl HBY.out hr1).mono ?_); rintro e w' ⟨rfl, rfl⟩)
        | (go_at_call 230; (with_reducible refine (getShort_is HG2 hnd hn2l HBY2.out hr2).mono ?_); rintro e w' ⟨rfl, rfl⟩))
      exact bodyPost_ret (v := .tuple #[.agg #[.int .u16 0, .int .u32 0], .int .i64 0, .int .i64 (e2 : Nat)]) (by simp [results, Try.results231, go_sem]) rfl ⟨by rw [HE.out]; rfl, (Below.refl _ _).alloc (Nat.le_refl _) _⟩
  · have HE : Hid (getP bs = ((0, 0), 0, e1)) := hid (by unfold getP; simp only [HG1.out]; rw [if_pos he1])
    have t1 : decide (e1 = 0) = false := by simpa using he1
    have t2 : decide ((e1 : Int) = 0) = false := by simp; omega
    have t3 : ((e1 : Int) == 0) = false := by simp; omega
    have t4 : ((e1 : Int) != 0) = true := by simp; omega
    clear hok1 hG1 hby
    go_enter Try.func231, Try.ntmps231
    go_wp2_with (go_at_call 230; (with_reducible refine (getShort_is HG1 hn hl HBY.out hr1).mono ?_); rintro e w' ⟨rfl, rfl⟩)
    exact bodyPost_ret (v := .tuple #[.agg #[.int .u16 0, .int .u32 0], .int .i64 0, .int .i64 (e1 : Nat)]) (by simp [results, Try.results231, go_sem]) rfl ⟨by rw [HE.out]; rfl, (Below.refl _ _).alloc (Nat.le_refl _) _⟩

set_option maxRecDepth 100000 in
set_option maxHeartbeats 3200000 in
theorem pidGetR_any {a : Option Addr} {c n : Nat} {bs : List Nat} {w : World} (hn : Hid (bs.length = n)) (hc : n ≤ c) (hl : n ≤ 70368744177664) (hby : ∀ b ∈ bs, b < 256) (hrow : ByteRow w a bs) :
    Calls Try.prog 203 #[.slice a n c] w fun e w' => e = .returned (pidT (getP bs)) ∧ Below w.heap.size w w' := by
  have hB : Below w.heap.size w (w.alloc (.cells #[.int .u16 0, .int .u32 0] 26)) := (Below.refl _ _).alloc (Nat.le_refl _) _
  have hr1 := hrow.ext hB
  obtain ⟨⟨x1, u1, e1⟩, hG1⟩ : ∃ q, getS bs = q := ⟨_, rfl⟩
  have HG1 := hid hG1
  have hok1 := getFrom_ok bs 0 0 (by decide) (by decide)
  rw [show getFrom 0 0 bs = getS bs from rfl, hG1] at hok1
  simp only at hok1
  have HBY := hid hby
  by_cases he1 : e1 = 0
  · subst he1
    obtain ⟨q1, q2, q3, q4⟩ := hok1 rfl
    have hu1 : u1 ≤ n := by rw [← hn.out]; omega
    obtain ⟨A1, hA1⟩ : ∃ A, (if c = u1 then a else a.map (·.add (u1 * 1))) = A := ⟨_, rfl⟩
    have hrun := fun W => run_fromB (a := a) (c := c) hu1 W
    have hr2 := hr1.cut (k := u1) (c := c) (by rw [hn.out]; exact hc)
    rw [hA1] at hr2
    simp only [hA1] at hrun
    obtain ⟨n2, hn2⟩ : ∃ n2, n - u1 = n2 := ⟨_, rfl⟩
    obtain ⟨c2, hc2⟩ : ∃ c2, c - u1 = c2 := ⟨_, rfl⟩
    simp only [hn2, hc2] at hrun
    have hnd : Hid ((bs.drop u1).length = n2) := hid (by rw [List.length_drop, hn.out, hn2])
    have hby2 : ∀ b ∈ bs.drop u1, b < 256 := fun b hb => HBY.out b (List.mem_of_mem_drop hb)
    obtain ⟨⟨x2, u2, e2⟩, hG2⟩ : ∃ q, getS (bs.drop u1) = q := ⟨_, rfl⟩
    have HG2 := hid hG2
    have hok2 := getFrom_ok (bs.drop u1) 0 0 (by decide) (by decide)
    rw [show getFrom 0 0 (bs.drop u1) = getS (bs.drop u1) from rfl, hG2] at hok2
    simp only at hok2
    have hn2l : n2 ≤ 70368744177664 := by omega
    have HBY2 := hid hby2
    have HN2 := hid hn2
    clear hA1 hn2 hc2 hby2 hG1 hG2 hok1 hby
    by_cases he2 : e2 = 0
    · subst he2
      obtain ⟨p1, p2, p3, p4⟩ := hok2 rfl
      rw [hnd.out] at p3
      clear hok2
      by_cases hb1 : 65535 < x1
      · have HE : Hid (getP bs = ((0, 0), 0, 5)) := hid (by unfold getP; simp only [HG1.out, HG2.out]; rw [if_neg (by simp), if_neg (by simp), if_pos (.inl hb1)])
        have t1 : decide (65535 < x1) = true := by simpa using hb1
        have t1' : decide ((65535 : Int) < x1) = true := by simp; omega
        go_enter Try.func203, Try.ntmps203
        go_wp2_with (first
          | (go_at_call 196; (with_reducible refine (getShortR_is HG1 hn hl HBY.out hr1).mono ?_); rintro e w' ⟨rfl, rfl⟩)
          | (go_at_call 196; (with_reducible refine (getShortR_is HG2 hnd hn2l HBY2.out hr2).mono ?_); rintro e w' ⟨rfl, rfl⟩))
        exact bodyPost_ret (v := .tuple #[.agg #[.int .u16 0, .int .u32 0], .int .i64 0, .int .i64 5]) (by simp [results, Try.results203, go_sem]) rfl ⟨by rw [HE.out]; rfl, (Below.refl _ _).alloc (Nat.le_refl _) _⟩
      · have t1 : decide (65535 < x1) = false := by simpa using hb1
        have t1' : decide ((65535 : Int) < x1) = false := by simp; omega
        by_cases hb2 : 4294967295 < x2
        · have HE : Hid (getP bs = ((0, 0), 0, 5)) := hid (by unfold getP; simp only [HG1.out, HG2.out]; rw [if_neg (by simp), if_neg (by simp), if_pos (.inr hb2)])
          have t2 : decide (4294967295 < x2) = true := by simpa using hb2
          have t2' : decide ((4294967295 : Int) < x2) = true := by simp; omega
          go_enter Try.func203, Try.ntmps203
          go_wp2_with (first
            | (go_at_call 196; (with_reducible refine (getShortR_is HG1 hn hl HBY.out hr1).mono ?_); rintro e w' ⟨rfl, rfl⟩)
            | (go_at_call 196; (with_reducible refine (getShortR_is HG2 hnd hn2l HBY2.out hr2).mono ?_); rintro e w' ⟨rfl, rfl⟩))
          exact bodyPost_ret (v := .tuple #[.agg #[.int .u16 0, .int .u32 0], .int .i64 0, .int .i64 5]) (by simp [results, Try.results203, go_sem]) rfl ⟨by rw [HE.out]; rfl, (Below.refl _ _).alloc (Nat.le_refl _) _⟩
        · have t2 : decide (4294967295 < x2) = false := by simpa using hb2
          have t2' : decide ((4294967295 : Int) < x2) = false := by simp; omega
          have HE : Hid (getP bs = ((((x1 : Nat) : Int), ((x2 : Nat) : Int)), u1 + u2, 0)) := hid (by unfold getP; simp only [HG1.out, HG2.out]; rw [if_neg (by simp), if_neg (by simp), if_neg (by omega)])
          have m1 : (x1 : Int) % 65536 = x1 := by omega
          have m2 : (x2 : Int) % 4294967296 = x2 := by omega
          go_enter Try.func203, Try.ntmps203
          go_wp2_with (first
            | (go_at_call 196; (with_reducible refine (getShortR_is HG1 hn hl HBY.out hr1).mono ?_); rintro e w' ⟨rfl, rfl⟩)
            | (go_at_call 196; (with_reducible refine (getShortR_is HG2 hnd hn2l HBY2.out hr2).mono ?_); rintro e w' ⟨rfl, rfl⟩))
          exact bodyPost_ret (v := .tuple #[.agg #[.int .u16 (x1 : Nat), .int .u32 (x2 : Nat)], .int .i64 ((u1 : Int) + (u2 : Int)), .int .i64 0]) (by simp [results, Try.results203, go_sem]) rfl ⟨by rw [HE.out]; rfl, (Below.refl _ _).alloc (Nat.le_refl _) _⟩
    · have HE : Hid (getP bs = ((0, 0), 0, e2)) := hid (by unfold getP; simp only [HG1.out, HG2.out]; rw [if_neg (by simp), if_pos he2])
      have t1 : decide (e2 = 0) = false := by simpa using he2
      have t2 : decide ((e2 : Int) = 0) = false := by simp; omega
      have t3 : ((e2 : Int) == 0) = false := by simp; omega
      have t4 : ((e2 : Int) != 0) = true := by simp; omega
      clear hok2
      go_enter Try.func203, Try.ntmps203
      go_wp2_with (first
        | (go_at_call 196; (with_reducible refine (getShortR_is HG1 hn hl HBY.out hr1).mono ?_); rintro e w' ⟨rfl, rfl⟩)
        | (go_at_call 196; (with_reducible refine (getShortR_is HG2 hnd hn2l HBY2.out hr2).mono ?_); rintro e w' ⟨rfl, rfl⟩))
      exact bodyPost_ret (v := .tuple #[.agg #[.int .u16 0, .int .u32 0], .int .i64 0, .int .i64 (e2 : Nat)]) (by simp [results, Try.results203, go_sem]) rfl ⟨by rw [HE.out]; rfl, (Below.refl _ _).alloc (Nat.le_refl _) _⟩
  · have HE : Hid (getP bs = ((0, 0), 0, e1)) := hid (by unfold getP; simp only [HG1.out]; rw [if_pos he1])
    have t1 : decide (e1 = 0) = false := by simpa using he1
    have t2 : decide ((e1 : Int) = 0) = false := by simp; omega
    have t3 : ((e1 : Int) == 0) = false := by simp; omega
    have t4 : ((e1 : Int) != 0) = true := by simp; omega
    clear hok1 hG1 hby
    go_enter Try.func203, Try.ntmps203
    go_wp2_with (go_at_call 196; (with_reducible refine (getShortR_is HG1 hn hl HBY.out hr1).mono ?_); rintro e w' ⟨rfl, rfl⟩)
    exact bodyPost_ret (v := .tuple #[.agg #[.int .u16 0, .int .u32 0], .int .i64 0, .int .i64 (e1 : Nat)]) (by simp [results, Try.results203, go_sem]) rfl ⟨by rw [HE.out]; rfl, (Below.refl _ _).alloc (Nat.le_refl _) _⟩
end Go.Proofs.Ytbpfhclcjedkcaa
