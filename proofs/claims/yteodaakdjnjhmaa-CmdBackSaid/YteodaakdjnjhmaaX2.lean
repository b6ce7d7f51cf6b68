import Derived.Test.YteodaakdjnjhmaaX1
namespace Go.Proofs.Yteodaakdjnjhmaa
open Go.RowKit
set_option maxRecDepth 100000 in
set_option maxHeartbeats 800000 in
theorem room_any {a : Option Addr} {c n : Nat} {bs : List Nat} {w : World} (m : Nat) (hn : Hid (bs.length = n)) (hl : n ≤ 549755813888) (hm : m ≤ 549755813888) (hrow : ByteRow w a bs) :
    Calls Try.prog 160 #[.slice a n c, .int .i64 m] w fun e w' => ∃ v, e = .returned v ∧ OwnB w' w.heap.size v bs ∧ Below w.heap.size w w' := by
  obtain ⟨i0, hi, hz0, hz1, hz2⟩ := info_parts infoB
  have hmk := run_makeB w n m (by omega)
  obtain ⟨Z, hZ⟩ : ∃ Z, madeCells #[.int .u8 0] (n + m) = Z := ⟨_, rfl⟩
  have hZs : Z.size = n + m := by rw [← hZ]; exact size_madeCells _ _
  rw [hZ] at hmk
  have HZ := hid hZs
  clear hZ hZs
  have hsz : (Try.prog.info? 5).map (·.size) = some 1 := by rw [hi]; simp [hz1]
  have hB : Below w.heap.size w (w.alloc (.cells Z 5)) := (Below.refl _ _).alloc (Nat.le_refl _) _
  have hpos : 0 < (u8C bs).length → (some ⟨w.heap.size, 0, none⟩ : Option Addr) = some ⟨w.heap.size, 0, none⟩ ∧ ∃ ad, a = some ad ∧ ∀ j v, (u8C bs)[j]? = some v → (w.alloc (.cells Z 5)).cell? (ad.add j) = some v := by
    intro h
    rcases hrow.alloc (.cells Z 5) with rfl | ⟨b, off, rfl, hlt, hc⟩
    · simp [u8C] at h
    · exact ⟨rfl, _, rfl, ByteRow.cells hc⟩
  have HPOS := hid hpos
  have HSZ := hid hsz
  clear hpos hsz
  go_enter Try.func160, Try.ntmps160
  go_wp2_with (with_reducible refine wpList_copy_splice rfl (.tmp 13) (.tmp 14) 40 40 rfl 5 Try.underlying40 HSZ.out (some ⟨w.heap.size, 0, none⟩) a n (n + m) n c rfl rfl w.heap.size 0 Z.toList 5 (by rw [Array.toArray_toList]; exact heap_alloc_new w _) (u8C bs) (by rw [u8C_len, hn.out]; simp) HPOS.out (by rw [u8C_len, hn.out]; have := HZ.out; simp; omega) (u8C_one bs) w.heap.size w hB (Nat.le_refl _) ?_; intro w4 hg4 hb4)
  go_ret
  refine ⟨_, rfl, ?_, hb4⟩
  unfold OwnB
  rw [hn.out]
  have h1 := hg4.out
  have hlen : (u8C bs).length = n := by rw [u8C_len, hn.out]
  have hZt : Z.toList.length = n + m := by have := HZ.out; simpa using this
  refine ⟨by rw [hlen]; omega, .inr ⟨w.heap.size, n + m, (splice Z.toList 0 (u8C bs)).toArray, rfl, Nat.le_refl _, h1, by omega, by unfold maxLen; omega, ?_, ?_⟩⟩
  · simp [length_splice Z.toList 0 (u8C bs) (by omega), hZt]
  · simp [splice, hlen]
theorem or128 (n : Nat) : bits .or .u8 ((n : Int) % 256) 128 = ((n % 128 + 128 : Nat) : Int) := by
  have := u8_or_nat (n % 256) 128 (by omega) (by decide)
  rw [show ((128 : Nat) : Int) = 128 from rfl, show ((n % 256 : Nat) : Int) = (n : Int) % 256 by omega] at this
  rw [this]
  congr 1
  have h2 := Nat.two_pow_add_eq_or_of_lt (i := 7) (b := n % 128) (by omega) 1
  have h3 : n % 256 ||| 128 = n % 128 ||| 128 := by
    apply Nat.eq_of_testBit_eq
    intro j
    rw [Nat.testBit_or, Nat.testBit_or, show (256 : Nat) = 2 ^ 8 from rfl, show n % 128 = n % 2 ^ 7 from rfl, Nat.testBit_mod_two_pow, Nat.testBit_mod_two_pow]
    have e : (128 : Nat).testBit j = decide (j = 7) := by
      rw [show (128 : Nat) = 2 ^ 7 from rfl, Nat.testBit_two_pow]
      rw [Bool.eq_iff_iff]; simp; omega
    rw [e]
    by_cases h : j = 7
    · simp [h]
    · have : (j < 8 ↔ j < 7) := by omega
      simp [h, this]
  rw [h3, Nat.or_comm]
  simpa [Nat.add_comm] using h2.symm
set_option maxRecDepth 100000 in
set_option maxHeartbeats 1600000 in
theorem putShort_any {a : Option Addr} {c n : Nat} {bs : List Nat} {w : World} (m : Nat) (hn : Hid (bs.length = n)) (hl : n ≤ 274877906944) (hm : m < 18446744073709551616) (hrow : ByteRow w a bs) :
    Calls Try.prog 137 #[.slice a n c, .int .u64 m] w fun e w' => ∃ v, e = .returned v ∧ OwnB w' w.heap.size v (bs ++ short m) ∧ Below w.heap.size w w' := by
  have hl10 := short_len10 hm
  obtain ⟨F, hF⟩ : ∃ F, bs ++ short m = F := ⟨_, rfl⟩
  have hFl : F.length ≤ n + 10 := by rw [← hF, List.length_append, hn.out]; omega
  rw [hF]
  have HF := hid hF
  clear hF
  go_enter Try.func137, Try.ntmps137
  go_wp2_with (go_at_call 160; refine (room_any 10 hn (by omega) (by decide) hrow).mono ?_; rintro e w1 ⟨v1, rfl, hown1, hb1⟩)
  go_loopw [1, 5] (fun i v wr => ∃ (k : Nat) (got : List Nat), k < 18446744073709551616 ∧ i = .int .u64 k ∧ Hid (F = got ++ short k) ∧ OwnB wr w.heap.size v got ∧ Below w.heap.size w wr) (fun i _ _ => (intOf i).toNat)
  case atStart => exact ⟨m, bs, hm, rfl, HF.out.symm, hown1, hb1⟩
  case round =>
    obtain ⟨k, got, hk, rfl, hM, hown, hb⟩ := hrel
    have hgl : got.length ≤ n + 10 := by have := congrArg List.length hM.out; rw [List.length_append] at this; omega
    have hsz := hb.size
    by_cases hge : 128 ≤ k
    · have hge' : decide (128 ≤ k) = true := by simpa using hge
      obtain ⟨x, hx⟩ : ∃ x, k % 128 + 128 = x := ⟨_, rfl⟩
      have e2 : bits .or .u8 ((k : Int) % 256) 128 = ((x : Nat) : Int) := by rw [← hx]; exact or128 k
      have hM2 : Hid (F = (got ++ [x]) ++ short (k / 128)) := hid (by rw [hM.out, short_ge (by omega), hx]; simp)
      clear hx
      go_wp2_with (at_builtin; refine wpList_appendB (hown.alloc _) (ByteRow.one _ x) (hid rfl) (by simp; omega) (by simp; omega) rfl rfl rfl rfl ?_; intro v2 w2 hown2 hg2 hat2)
      have hB2 : Below w.heap.size w w2 := below_of_grown (hb.alloc hsz _) hg2 (hown.alloc _) (by simp; omega) (Nat.le_refl _)
      go_roundw
      case rel => exact ⟨k / 128, got ++ [x], by omega, by go_num, hM2, hown2, hB2⟩
      case measure => simp [intOf]; omega
    · have hge' : decide (128 ≤ k) = false := by simpa using hge
      have hM2 : Hid (F = got ++ [k]) := hid (by rw [hM.out, short_lt (by omega)])
      have e3 : (k : Int) % 256 = k := by omega
      go_wp2_with (at_builtin; refine wpList_appendB (hown.alloc _) (ByteRow.one _ k) (hid rfl) (by simp; omega) (by simp; omega) rfl rfl rfl rfl ?_; intro v2 w2 hown2 hg2 hat2)
      have hB2 : Below w.heap.size w w2 := below_of_grown (hb.alloc hsz _) hg2 (hown.alloc _) (by simp; omega) (Nat.le_refl _)
      go_ret
      exact ⟨_, rfl, by rw [hM2.out]; exact hown2, hB2⟩
set_option maxRecDepth 100000 in
set_option maxHeartbeats 1600000 in
theorem shortR_any {w : World} (m : Nat) (hm : m < 18446744073709551616) :
    Calls Try.prog 145 #[.int .u64 m] w fun e w' => ∃ v, e = .returned v ∧ OwnB w' w.heap.size v (short m) ∧ Below w.heap.size w w' := by
  have hl10 := short_len10 hm
  obtain ⟨F, hF⟩ : ∃ F, short m = F := ⟨_, rfl⟩
  rw [hF] at hl10 ⊢
  have HF := hid hF
  clear hF
  go_enter Try.func145, Try.ntmps145
  go_wp2
  go_loopw [0, 3] (fun i v wr => ∃ (k : Nat) (got : List Nat), k < 18446744073709551616 ∧ i = .int .u64 k ∧ Hid (F = got ++ short k) ∧ OwnB wr w.heap.size v got ∧ Below w.heap.size w wr) (fun i _ _ => (intOf i).toNat)
  case atStart => exact ⟨m, [], hm, rfl, by show F = [] ++ short m; exact HF.out.symm, OwnB.nil _ _, Below.refl _ _⟩
  case round =>
    obtain ⟨k, got, hk, rfl, hM, hown, hb⟩ := hrel
    have hgl : got.length ≤ 10 := by have := congrArg List.length hM.out; rw [List.length_append] at this; omega
    have hsz := hb.size
    by_cases hge : 128 ≤ k
    · have hge' : decide (128 ≤ k) = true := by simpa using hge
      obtain ⟨x, hx⟩ : ∃ x, k % 128 + 128 = x := ⟨_, rfl⟩
      have e2 : ((k : Int) % 128) % 256 = (k : Int) % 128 := by omega
      have e4 : (k : Int) % 128 + 128 = ((x : Nat) : Int) := by omega
      have e5 : (x : Int) % 256 = (x : Int) := by omega
      have hM2 : Hid (F = (got ++ [x]) ++ short (k / 128)) := hid (by rw [hM.out, short_ge (by omega), hx]; simp)
      clear hx
      go_wp2_with (at_builtin; refine wpList_appendB (hown.alloc _) (ByteRow.one _ x) (hid rfl) (by simp; omega) (by simp; omega) rfl rfl rfl rfl ?_; intro v2 w2 hown2 hg2 hat2)
      have hB2 : Below w.heap.size w w2 := below_of_grown (hb.alloc hsz _) hg2 (hown.alloc _) (by simp; omega) (Nat.le_refl _)
      go_roundw
      case rel => exact ⟨k / 128, got ++ [x], by omega, by go_num, hM2, hown2, hB2⟩
      case measure => simp [intOf]; omega
    · have hge' : decide (128 ≤ k) = false := by simpa using hge
      have hM2 : Hid (F = got ++ [k]) := hid (by rw [hM.out, short_lt (by omega)])
      have e3 : (k : Int) % 256 = k := by omega
      go_wp2_with (at_builtin; refine wpList_appendB (hown.alloc _) (ByteRow.one _ k) (hid rfl) (by simp; omega) (by simp; omega) rfl rfl rfl rfl ?_; intro v2 w2 hown2 hg2 hat2)
      have hB2 : Below w.heap.size w w2 := below_of_grown (hb.alloc hsz _) hg2 (hown.alloc _) (by simp; omega) (Nat.le_refl _)
      go_ret
      exact ⟨_, rfl, by rw [hM2.out]; exact hown2, hB2⟩
end Go.Proofs.Yteodaakdjnjhmaa
