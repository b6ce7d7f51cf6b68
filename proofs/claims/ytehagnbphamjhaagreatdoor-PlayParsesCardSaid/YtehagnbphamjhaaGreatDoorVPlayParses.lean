/- For every input, choraguslaw30.PlayParses returns true, and each argument reads afterwards as it read before; no condition. -/
import Derived.Test.YtehagnbphamjhaaGreatDoorRows
import Derived.Test.YtehagnbphamjhaaGreatDoorCards
import Derived.Test.YtehagnbphamjhaaGreatDoorTie
import Derived.Test.YtehagnbphamjhaaGreatDoorPPn
namespace Go.Proofs.YtehagnbphamjhaaGreatDoor
open Go.RowKit
/-! ### Digits of the reference, Print of both -/
theorem run_dig (n : Nat) (h : n < 10) (W : World) : (Instr.slice 9 (.string ⟨#[48, 49, 50, 51, 52, 53, 54, 55, 56, 57]⟩) (some (.int .u64 (n : Int))) (some (.int .u64 ((n : Int) + 1))) none).run Tryz.prog W = .ok (.string ⟨(Lib.decDigits n).toArray⟩) W := by
  have hz : (⟨#[48, 49, 50, 51, 52, 53, 54, 55, 56, 57]⟩ : ByteArray).size = 10 := rfl
  rw [run_slice_string W 9 _ .u64 .u64 _ _ Tryz.underlying9 (by omega) (by omega) (by rw [hz]; omega), show ((n : Int)).toNat = n by omega, show ((n : Int) + 1).toNat = n + 1 by omega]
  congr 2
  rw [Lib.decDigits_one h]
  have : n = 0 ∨ n = 1 ∨ n = 2 ∨ n = 3 ∨ n = 4 ∨ n = 5 ∨ n = 6 ∨ n = 7 ∨ n = 8 ∨ n = 9 := by omega
  rcases this with rfl | rfl | rfl | rfl | rfl | rfl | rfl | rfl | rfl | rfl <;> first | rfl | decide +kernel
set_option maxHeartbeats 1600000 in
theorem digits_any (n : Nat) : n < 18446744073709551616 → ∀ w : World, Calls Tryz.prog 28 #[.int .u64 n] w fun e w' => e = .returned (.string ⟨(Lib.decDigits n).toArray⟩) ∧ Below w.heap.size w w' := by
  induction n using Nat.strongRecOn with
  | _ n ih =>
    intro hn w
    by_cases h : n < 10
    · have U := run_dig n h
      have i1 : (n : Int) < 10 := by omega
      have i2 : decide ((n : Int) < 10) = true := decide_eq_true i1
      have i3 : IntKind.u64.wrap ((n : Int) + 1) = (n : Int) + 1 := by rw [IntKind.wrap_u64]; omega
      clear ih
      go_enter Tryz.func28, Tryz.ntmps28
      go_wp2
      go_ret
      exact ⟨rfl, Below.refl _ _⟩
    · have i1 : ¬ (n : Int) < 10 := by omega
      have i2 : decide ((n : Int) < 10) = false := decide_eq_false i1
      have U := run_dig (n % 10) (Nat.mod_lt _ (by omega))
      have e1 : ((n / 10 : Nat) : Int) = (n : Int) / 10 := by omega
      have hl1 := dec_len (n / 10) 19 (by omega)
      have hl2 := dec_len (n % 10) 19 (by omega)
      have hadd := run_cat (Lib.decDigits (n / 10)) (Lib.decDigits (n % 10)) (by omega) (by omega)
      clear hl1 hl2
      have e2 : ((n % 10 : Nat) : Int) = (n : Int) % 10 := by omega
      rw [e2] at U
      have CX : ∀ V : ExtW w, Calls Tryz.prog 28 #[.int .u64 ((n / 10 : Nat) : Int)] V.W fun e w' => e = .returned (.string ⟨(Lib.decDigits (n / 10)).toArray⟩) ∧ ∃ V' : ExtW w, w' = V'.W := fun V => by
        refine (ih (n / 10) (by omega) (by omega) V.W).mono ?_
        rintro e w' ⟨rfl, hb⟩
        exact ⟨rfl, ⟨_, V.h.trans (hb.mono V.h.size)⟩, rfl⟩
      rw [e1] at CX
      have CX := hid CX
      clear ih e1 e2
      go_enter Tryz.func28, Tryz.ntmps28
      go_wp2
      refine wp_region_ext (w := w) (Below.refl _ _) (by kernel_rfl) (by kernel_rfl) ?_
      repeat (go_big_quiet_step (with_reducible exact CX.out _))
      refine wpQuiet_nil ?_
      rintro w9 ⟨⟨_, hb9⟩, rfl⟩
      have HB9 := hid hb9
      have e : Lib.decDigits n = Lib.decDigits (n / 10) ++ Lib.decDigits (n % 10) := by
        rw [Lib.decDigits, dif_neg h, Lib.decDigits_one (Nat.mod_lt _ (by omega))]
      have HE := hid e
      clear hb9 CX U hadd
      go_wp2
      go_ret
      refine ⟨?_, HB9.out⟩
      rw [HE.out]; rfl
end Go.Proofs.YtehagnbphamjhaaGreatDoor

namespace Go.Proofs.YtehagnbphamjhaaGreatDoor
open Go.RowKit
/-! ### texts of bytes: Hex of both -/
theorem run_hexD (n : Nat) (h : n < 16) (W : World) : (Instr.slice 9 (.string ⟨#[48, 49, 50, 51, 52, 53, 54, 55, 56, 57, 97, 98, 99, 100, 101, 102]⟩) (some (.int .u8 (n : Int))) (some (.int .u8 ((n : Int) + 1))) none).run Tryz.prog W = .ok (.string ⟨[hexD n].toArray⟩) W := by
  have hz : (⟨#[48, 49, 50, 51, 52, 53, 54, 55, 56, 57, 97, 98, 99, 100, 101, 102]⟩ : ByteArray).size = 16 := rfl
  rw [run_slice_string W 9 _ .u8 .u8 _ _ Tryz.underlying9 (by omega) (by omega) (by rw [hz]; omega), show ((n : Int)).toNat = n by omega, show ((n : Int) + 1).toNat = n + 1 by omega]
  congr 2
  have : n = 0 ∨ n = 1 ∨ n = 2 ∨ n = 3 ∨ n = 4 ∨ n = 5 ∨ n = 6 ∨ n = 7 ∨ n = 8 ∨ n = 9 ∨ n = 10 ∨ n = 11 ∨ n = 12 ∨ n = 13 ∨ n = 14 ∨ n = 15 := by omega
  rcases this with rfl | rfl | rfl | rfl | rfl | rfl | rfl | rfl | rfl | rfl | rfl | rfl | rfl | rfl | rfl | rfl <;> first | rfl | decide +kernel
end Go.Proofs.YtehagnbphamjhaaGreatDoor

namespace Go.Proofs.YtehagnbphamjhaaGreatDoor
open Go.RowKit
/-! ### a script's texts, in plain words -/
theorem shapeW_some {w : Str} {x : Shape} (h : shapeW w = some x) : x ∈ shapesP ∧ x.word = w := ⟨List.mem_of_find?_eq_some h, by simpa using List.find?_some h⟩
/-! split at one byte -/
/-! numbers -/
end Go.Proofs.YtehagnbphamjhaaGreatDoor

namespace Go.Proofs.YtehagnbphamjhaaGreatDoor
open Go.RowKit
/-! ### the document's Word, digit, number, value -/
def wordsR : List Str := [[], [116, 105, 99, 107], [100, 101, 108, 105, 118, 101, 114], [100, 114, 111, 112], [100, 111, 117, 98, 108, 101], [115, 112, 111, 105, 108], [99, 114, 97, 115, 104], [106, 111, 105, 110], [108, 101, 97, 118, 101], [115, 101, 110, 100], [114, 111, 117, 110, 100], [97, 108, 105, 101, 110], [112, 97, 114, 116], [104, 101, 97, 108]]
def hassR : List Str := [[], [], [], [], [], [98, 120], [], [], [], [120], [], [120], [98], []]
def wordR (k : Int) : Str := wordsR.getD k.toNat []
def hasR (k : Int) : Str := hassR.getD k.toNat []
theorem strC (l : List Str) (k : Nat) (hk : k < l.length) : (l.map fun x : Str => Value.string ⟨x.toArray⟩)[k]? = some (.string ⟨(l.getD k []).toArray⟩) := by
  simp [List.getElem?_eq_getElem hk, List.getD_eq_getElem?_getD]
theorem wordC (W : World) (t : TypeId) (k : Nat) (hk : k < 14) : (W.alloc (.cells #[.string ⟨#[]⟩, .string ⟨#[116, 105, 99, 107]⟩, .string ⟨#[100, 101, 108, 105, 118, 101, 114]⟩, .string ⟨#[100, 114, 111, 112]⟩, .string ⟨#[100, 111, 117, 98, 108, 101]⟩, .string ⟨#[115, 112, 111, 105, 108]⟩, .string ⟨#[99, 114, 97, 115, 104]⟩, .string ⟨#[106, 111, 105, 110]⟩, .string ⟨#[108, 101, 97, 118, 101]⟩, .string ⟨#[115, 101, 110, 100]⟩, .string ⟨#[114, 111, 117, 110, 100]⟩, .string ⟨#[97, 108, 105, 101, 110]⟩, .string ⟨#[112, 97, 114, 116]⟩, .string ⟨#[104, 101, 97, 108]⟩] t)).cell? ⟨W.heap.size, k, none⟩ = some (.string ⟨(wordR k).toArray⟩) := by
  refine (BoxL.made W t (wordsR.map fun x : Str => Value.string ⟨x.toArray⟩)).cell ?_
  exact strC wordsR k hk
theorem hasC (W : World) (t : TypeId) (k : Nat) (hk : k < 14) : (W.alloc (.cells #[.string ⟨#[]⟩, .string ⟨#[]⟩, .string ⟨#[]⟩, .string ⟨#[]⟩, .string ⟨#[]⟩, .string ⟨#[98, 120]⟩, .string ⟨#[]⟩, .string ⟨#[]⟩, .string ⟨#[]⟩, .string ⟨#[120]⟩, .string ⟨#[]⟩, .string ⟨#[120]⟩, .string ⟨#[98]⟩, .string ⟨#[]⟩] t)).cell? ⟨W.heap.size, k, none⟩ = some (.string ⟨(hasR k).toArray⟩) := by
  refine (BoxL.made W t (hassR.map fun x : Str => Value.string ⟨x.toArray⟩)).cell ?_
  exact strC hassR k hk
theorem wordR_out {k : Int} (h : k < 1 ∨ 13 < k) : wordR k = [] ∧ hasR k = [] := by
  rcases h with h | h
  · have : k.toNat = 0 := by omega
    unfold wordR hasR
    rw [this]
    exact ⟨rfl, rfl⟩
  · obtain ⟨m, hm⟩ : ∃ m, k.toNat = 14 + m := ⟨k.toNat - 14, by omega⟩
    unfold wordR hasR
    rw [hm]
    refine ⟨?_, ?_⟩
    · rw [List.getD_eq_getElem?_getD, List.getElem?_eq_none (by simp [wordsR])]; rfl
    · rw [List.getD_eq_getElem?_getD, List.getElem?_eq_none (by simp [hassR])]; rfl
theorem shapeK_out {k : Int} (h : k < 1 ∨ 13 < k) : shapeK k = none := by
  unfold shapeK
  rw [List.find?_eq_none]
  intro x hx
  have := (shapes_ok x hx).2.2.2.2.2.2
  simp only [decide_eq_true_eq]
  omega
/-- the word's shape, and what it has -/
theorem word_shape (k : Int) : (shapeK k = none ∧ (k < 1 ∨ 13 < k) ∧ wordR k = [] ∧ hasR k = []) ∨ ∃ x, shapeK k = some x ∧ x.kind = k ∧ wordR k = x.word ∧ x.word ≠ [] ∧ hasR k = (if x.two = true then [98] else []) ++ (if x.bytes = true then [120] else []) := by
  by_cases h : k < 1 ∨ 13 < k
  · exact .inl ⟨shapeK_out h, h, wordR_out h⟩
  · have : k = 1 ∨ k = 2 ∨ k = 3 ∨ k = 4 ∨ k = 5 ∨ k = 6 ∨ k = 7 ∨ k = 8 ∨ k = 9 ∨ k = 10 ∨ k = 11 ∨ k = 12 ∨ k = 13 := by omega
    rcases this with rfl | rfl | rfl | rfl | rfl | rfl | rfl | rfl | rfl | rfl | rfl | rfl | rfl <;> exact .inr ⟨_, rfl, rfl, rfl, by decide, rfl⟩
set_option maxRecDepth 100000 in
set_option maxHeartbeats 3200000 in
theorem refWord_any (k : Int) (w : World) :
    Calls Tryz.prog 59 #[.int .i64 k] w fun e w' => e = .returned (.tuple #[.string ⟨(wordR k).toArray⟩, .string ⟨(hasR k).toArray⟩]) ∧ Below w.heap.size w w' := by
  by_cases h : k < 1 ∨ 13 < k
  · obtain ⟨e1, e2⟩ := wordR_out h
    rw [e1, e2]
    clear e1 e2
    rcases h with h | h
    · have d1 : decide (k < 1) = true := decide_eq_true h
      go_enter Tryz.func59, Tryz.ntmps59
      go_wp2_with fail
      refine bodyPost_ret (v := .tuple #[.string ⟨#[]⟩, .string ⟨#[]⟩]) (by simp [results, Tryz.results59, go_sem]) rfl ⟨rfl, Below.refl _ _⟩
    · have d1 : decide (k < 1) = false := decide_eq_false (by omega)
      have d2 : decide (k > 13) = true := decide_eq_true (by omega)
      have d3 : decide (13 < k) = true := decide_eq_true (by omega)
      go_enter Tryz.func59, Tryz.ntmps59
      go_wp2_with fail
      refine bodyPost_ret (v := .tuple #[.string ⟨#[]⟩, .string ⟨#[]⟩]) (by simp [results, Tryz.results59, go_sem]) rfl ⟨rfl, Below.refl _ _⟩
  · have d1 : decide (k < 1) = false := decide_eq_false (by omega)
    have d2 : decide (k > 13) = false := decide_eq_false (by omega)
    have d3 : decide (13 < k) = false := decide_eq_false (by omega)
    obtain ⟨n, rfl⟩ : ∃ n : Nat, k = (n : Int) := ⟨k.toNat, by omega⟩
    have hn : n < 14 := by omega
    obtain ⟨W1, hW1⟩ : ∃ z, w.alloc (.cells #[.string ⟨#[]⟩, .string ⟨#[116, 105, 99, 107]⟩, .string ⟨#[100, 101, 108, 105, 118, 101, 114]⟩, .string ⟨#[100, 114, 111, 112]⟩, .string ⟨#[100, 111, 117, 98, 108, 101]⟩, .string ⟨#[115, 112, 111, 105, 108]⟩, .string ⟨#[99, 114, 97, 115, 104]⟩, .string ⟨#[106, 111, 105, 110]⟩, .string ⟨#[108, 101, 97, 118, 101]⟩, .string ⟨#[115, 101, 110, 100]⟩, .string ⟨#[114, 111, 117, 110, 100]⟩, .string ⟨#[97, 108, 105, 101, 110]⟩, .string ⟨#[112, 97, 114, 116]⟩, .string ⟨#[104, 101, 97, 108]⟩] 9) = z := ⟨_, rfl⟩
    obtain ⟨W2, hW2⟩ : ∃ z, W1.alloc (.cells #[.string ⟨#[]⟩, .string ⟨#[]⟩, .string ⟨#[]⟩, .string ⟨#[]⟩, .string ⟨#[]⟩, .string ⟨#[98, 120]⟩, .string ⟨#[]⟩, .string ⟨#[]⟩, .string ⟨#[]⟩, .string ⟨#[120]⟩, .string ⟨#[]⟩, .string ⟨#[120]⟩, .string ⟨#[98]⟩, .string ⟨#[]⟩] 9) = z := ⟨_, rfl⟩
    have hb1 : Below w.heap.size w W1 := by rw [← hW1]; exact (Below.refl _ _).alloc (Nat.le_refl _) _
    have hb2 : Below W1.heap.size W1 W2 := by rw [← hW2]; exact (Below.refl _ _).alloc (Nat.le_refl _) _
    obtain ⟨SW, hSW⟩ : ∃ S : ByteArray, (⟨(wordR n).toArray⟩ : ByteArray) = S := ⟨_, rfl⟩
    obtain ⟨SH, hSH⟩ : ∃ S : ByteArray, (⟨(hasR n).toArray⟩ : ByteArray) = S := ⟨_, rfl⟩
    have q1 : W1.cell? ⟨w.heap.size, n, none⟩ = some (.string SW) := by rw [← hW1, ← hSW]; exact wordC w _ n hn
    have q2 : W2.cell? ⟨W1.heap.size, n, none⟩ = some (.string SH) := by rw [← hW2, ← hSH]; exact hasC W1 _ n hn
    have q1 : W2.cell? ⟨w.heap.size, n, none⟩ = some (.string SW) := (hb2.cell (World.block_lt_of_cell? W1 _ q1)).trans q1
    rw [hSW, hSH]
    have HB2 := hid (hb1.trans (hb2.mono hb1.size))
    have f1 := cell_extO q1
    have f2 := cell_extO q2
    clear hb1 hb2 q1 q2 hSW hSH
    go_enter Tryz.func59, Tryz.ntmps59
    go_upto_region 5 with fail
    clear hW1 hW2
    go_wp2_with fail
    refine wp_region_ext (w := W2) (Below.refl _ _) (by kernel_rfl) (by kernel_rfl) ?_
    try simp only [List.append_eq, List.cons_append, List.nil_append]
    repeat (go_big_quiet_step (fail))
    refine wpQuiet_nil ?_
    rintro _ ⟨⟨w9, hb9⟩, rfl⟩
    have HB := hid (HB2.out.trans (hb9.mono HB2.out.size))
    clear hb9 f1 f2
    go_wp2_with fail
    refine bodyPost_ret (v := .tuple #[.string SW, .string SH]) (by simp [results, Tryz.results59, go_sem]) rfl ⟨rfl, HB.out⟩
/-! digit -/
def digN (x : Nat) : Nat := if 97 ≤ x then (x - 87) % 256 else (x + 208) % 256
theorem digR_n (c : UInt8) : digR c = digN c.toNat := rfl
theorem refDigit_any (x : Nat) (hx : x < 256) (w : World) : Calls Tryz.prog 61 #[.int .u8 x] w fun e w' => e = .returned (.int .u8 (digN x : Nat)) ∧ w' = w := by
  unfold digN
  by_cases h : 97 ≤ x
  · rw [if_pos h]
    have d1 : decide ((x : Int) ≥ 97) = true := decide_eq_true (by omega)
    have d2 : decide (97 ≤ (x : Int)) = true := decide_eq_true (by omega)
    have d3 : decide (97 ≤ x) = true := decide_eq_true h
    have e1 : IntKind.u8.wrap ((x : Int) - 97) = (x : Int) - 97 := by rw [IntKind.wrap_u8]; omega
    have e2 : IntKind.u8.wrap ((x : Int) - 97 + 10) = (((x - 87) % 256 : Nat) : Int) := by rw [IntKind.wrap_u8]; omega
    go_enter Tryz.func61, Tryz.ntmps61
    go_wp2_with fail
    go_ret
    exact ⟨rfl, rfl⟩
  · rw [if_neg h]
    have d1 : decide ((x : Int) ≥ 97) = false := decide_eq_false (by omega)
    have d2 : decide (97 ≤ (x : Int)) = false := decide_eq_false (by omega)
    have d3 : decide (97 ≤ x) = false := decide_eq_false h
    have e1 : IntKind.u8.wrap ((x : Int) - 48) = (((x + 208) % 256 : Nat) : Int) := by rw [IntKind.wrap_u8]; omega
    go_enter Tryz.func61, Tryz.ntmps61
    go_wp2_with fail
    go_ret
    exact ⟨rfl, rfl⟩
/-! number -/
theorem refNumber_any (n : Int) (h1 : -9223372036854775808 ≤ n) (h2 : n ≤ 9223372036854775807) (w : World) : Calls Tryz.prog 85 #[.int .i64 n] w fun e w' => e = .returned (.string ⟨(Lib.itoa n).toArray⟩) ∧ Below w.heap.size w w' := by
  unfold Lib.itoa
  by_cases h : n < 0
  · rw [if_pos h]
    obtain ⟨m, hm⟩ : ∃ m, n.natAbs = m := ⟨_, rfl⟩
    have hml : m < 18446744073709551616 := by omega
    have d1 : decide (n < 0) = true := decide_eq_true h
    have e1 : IntKind.u64.wrap n = n + 18446744073709551616 := by rw [IntKind.wrap_u64]; omega
    have e2 : IntKind.u64.wrap (0 - (n + 18446744073709551616)) = (m : Int) := by rw [IntKind.wrap_u64]; omega
    have C := hid (digits_any m hml w)
    have ld := dec_len m 19 (by omega)
    rw [hm]
    obtain ⟨D, hD⟩ : ∃ D, Lib.decDigits m = D := ⟨_, rfl⟩
    rw [hD] at C ld ⊢
    have a1 := run_cat [45] D (by simp) (by omega)
    obtain ⟨z, hz⟩ : ∃ z : Int, n + 18446744073709551616 = z := ⟨_, rfl⟩
    rw [hz] at e1 e2
    have e3 : IntKind.u64.wrap (-z) = (m : Int) := by rw [← e2, Int.zero_sub]
    clear hm hml hD ld hz h h1 h2
    go_enter Tryz.func85, Tryz.ntmps85
    go_wp2_with fail
    refine C.out.mono ?_
    rintro e w2 ⟨rfl, hb⟩
    go_wp2_with fail
    go_ret
    exact ⟨rfl, hb⟩
  · rw [if_neg h]
    have d1 : decide (n < 0) = false := decide_eq_false h
    obtain ⟨m, rfl⟩ : ∃ m : Nat, n = (m : Int) := ⟨n.toNat, by omega⟩
    have e1 : IntKind.u64.wrap (m : Int) = (m : Int) := by rw [IntKind.wrap_u64]; omega
    have C := hid (digits_any m (by omega) w)
    rw [Int.toNat_natCast]
    obtain ⟨D, hD⟩ : ∃ D, Lib.decDigits m = D := ⟨_, rfl⟩
    rw [hD] at C ⊢
    clear hD h h1 h2
    go_enter Tryz.func85, Tryz.ntmps85
    go_wp2_with fail
    refine C.out.mono ?_
    rintro e w2 ⟨rfl, hb⟩
    go_wp2_with fail
    go_ret
    exact ⟨rfl, hb⟩
end Go.Proofs.YtehagnbphamjhaaGreatDoor

namespace Go.Proofs.YtehagnbphamjhaaGreatDoor
open Go.RowKit
/-! ### the document's value -/
def valS (n : Nat) (c : UInt8) : Nat := if 48 ≤ c.toNat ∧ c.toNat ≤ 57 then (n * 10 + (c.toNat - 48)) % 18446744073709551616 else n
theorem valN_fold (s : Str) : valN s = s.foldl valS 0 := rfl
theorem valS_no {n : Nat} {c : UInt8} (h : ¬ (48 ≤ c.toNat ∧ c.toNat ≤ 57)) : valS n c = n := if_neg h
theorem valS_yes {n : Nat} {c : UInt8} (h : 48 ≤ c.toNat ∧ c.toNat ≤ 57) : valS n c = (n * 10 + (c.toNat - 48)) % 18446744073709551616 := if_pos h
theorem wrap_mul10 (m : Nat) : IntKind.u64.wrap ((m : Int) * 10) = ((m * 10 % 18446744073709551616 : Nat) : Int) := by rw [IntKind.wrap_u64]; omega
theorem wrap_addD (m d : Nat) : IntKind.u64.wrap (((m * 10 % 18446744073709551616 : Nat) : Int) + (d : Int)) = (((m * 10 + d) % 18446744073709551616 : Nat) : Int) := by rw [IntKind.wrap_u64]; omega
theorem wrap_neg0 (m : Nat) (h : m < 18446744073709551616) : IntKind.u64.wrap (-(m : Int)) = (((18446744073709551616 - m) % 18446744073709551616 : Nat) : Int) := by rw [IntKind.wrap_u64]; omega
theorem wrap_valI (m : Nat) (h : m < 18446744073709551616) : wrap64 (m : Int) = valI m := by
  unfold wrap64 valI
  split <;> omega
theorem foldS_drop {s : Str} {k : Nat} {c : UInt8} (h : s[k]? = some c) (m : Nat) : (s.drop k).foldl valS m = (s.drop (k + 1)).foldl valS (valS m c) := by
  have hk := (List.getElem?_eq_some_iff.1 h).1
  have e : s[k] = c := by rw [List.getElem?_eq_getElem hk] at h; exact Option.some.inj h
  rw [List.drop_eq_getElem_cons hk, e, List.foldl_cons]
theorem valR_eq (s : Str) (N : Nat) (hN : valN s = N) : valR s = if s.head? = some 45 then valI ((18446744073709551616 - N) % 18446744073709551616) else valI N := by rw [← hN]; rfl
set_option maxRecDepth 100000 in
set_option maxHeartbeats 3200000 in
theorem refValue_any {s : Str} {w : World} (hs : s.length ≤ 40000000) :
    Calls Tryz.prog 60 #[.string ⟨s.toArray⟩] w fun e w' => e = .returned (.int .i64 (valR s)) ∧ Below w.heap.size w w' := by
  obtain ⟨n, hn⟩ : ∃ n, s.length = n := ⟨_, rfl⟩
  have hz : (⟨s.toArray⟩ : ByteArray).size = n := by rw [← hn]; show s.toArray.size = _; simp
  obtain ⟨N, hN⟩ : ∃ N, valN s = N := ⟨_, rfl⟩
  have hNl : N < 18446744073709551616 := by rw [← hN]; exact valN_lt s
  have HV := hid (valR_eq s N hN)
  have HN := hid hn
  have HF : Hid (N = (s.drop 0).foldl valS 0) := hid (by rw [List.drop_zero, ← valN_fold, hN])
  obtain ⟨V, hV⟩ : ∃ V, valR s = V := ⟨_, rfl⟩
  rw [hV] at HV ⊢
  rw [hn] at hs
  have HNL := hid hNl
  clear hN hV hn hNl
  go_enter Tryz.func60, Tryz.ntmps60
  go_wp2_with fail
  go_loopw [3, 4] (fun mv iv wr => ∃ (k m : Nat), iv = .int .i64 k ∧ mv = .int .u64 m ∧ k ≤ n ∧ m < 18446744073709551616 ∧ Hid (N = (s.drop k).foldl valS m) ∧ Hid (Below w.heap.size w wr)) (fun _ iv _ => n - (intOf iv).toNat)
  case atStart => exact ⟨0, 0, rfl, rfl, Nat.zero_le _, by decide, HF, hid (Below.refl _ _)⟩
  case round =>
    obtain ⟨k, m, rfl, rfl, hk, hm, hf, hbw⟩ := hrel
    by_cases hlt : k < n
    · obtain ⟨c, hc⟩ : ∃ c, s[k]? = some c := ⟨s[k]'(by rw [HN.out]; exact hlt), List.getElem?_eq_getElem _⟩
      have UI := fun W => str_at hc W
      have HFC : Hid (N = (s.drop (k + 1)).foldl valS (valS m c)) := hid (by rw [hf.out, foldS_drop hc])
      obtain ⟨x, hx⟩ : ∃ x, c.toNat = x := ⟨_, rfl⟩
      have hxl : x < 256 := by rw [← hx]; exact UInt8.toNat_lt c
      have HX := hid hx
      rw [hx] at UI
      clear hc hx hf
      by_cases hd : 48 ≤ x ∧ x ≤ 57
      · have g1 : decide ((x : Int) ≥ 48) = true := decide_eq_true (by omega)
        have g2 : decide (48 ≤ (x : Int)) = true := decide_eq_true (by omega)
        have g3 : decide (48 ≤ x) = true := decide_eq_true hd.1
        have g4 : decide ((x : Int) ≤ 57) = true := decide_eq_true (by omega)
        have g5 : decide (x ≤ 57) = true := decide_eq_true hd.2
        have HS : Hid (valS m c = (m * 10 + (x - 48)) % 18446744073709551616) := hid (by rw [valS_yes (by rw [HX.out]; exact hd), HX.out])
        obtain ⟨d, hdd⟩ : ∃ d, x - 48 = d := ⟨_, rfl⟩
        have e1 : IntKind.u8.wrap ((x : Int) - 48) = (d : Int) := by rw [IntKind.wrap_u8]; omega
        have e2 : IntKind.u64.wrap (d : Int) = (d : Int) := by rw [IntKind.wrap_u64]; omega
        have e3 := wrap_mul10 m
        have e4 := wrap_addD m d
        rw [hdd] at HS
        obtain ⟨M1, hM1⟩ : ∃ M, m * 10 % 18446744073709551616 = M := ⟨_, rfl⟩
        obtain ⟨M2, hM2⟩ : ∃ M, (m * 10 + d) % 18446744073709551616 = M := ⟨_, rfl⟩
        have hm2 : M2 < 18446744073709551616 := by rw [← hM2]; omega
        rw [hM1] at e3 e4
        rw [hM2] at e4 HS
        clear hM1 hM2 hdd hd
        go_wp2_with fail
        go_roundw
        case rel => exact ⟨k + 1, M2, by go_num, rfl, by omega, hm2, hid (by rw [HFC.out, HS.out]), hbw⟩
        case measure => simp [intOf]; omega
      · have HS : Hid (valS m c = m) := hid (valS_no (by rw [HX.out]; exact hd))
        by_cases h1 : 48 ≤ x
        · have g1 : decide ((x : Int) ≥ 48) = true := decide_eq_true (by omega)
          have g2 : decide (48 ≤ (x : Int)) = true := decide_eq_true (by omega)
          have g3 : decide (48 ≤ x) = true := decide_eq_true h1
          have g4 : decide ((x : Int) ≤ 57) = false := decide_eq_false (by omega)
          have g5 : decide (x ≤ 57) = false := decide_eq_false (by omega)
          clear hd
          go_wp2_with fail
          go_roundw
          case rel => exact ⟨k + 1, m, by go_num, rfl, by omega, hm, hid (by rw [HFC.out, HS.out]), hbw⟩
          case measure => simp [intOf]; omega
        · have g1 : decide ((x : Int) ≥ 48) = false := decide_eq_false (by omega)
          have g2 : decide (48 ≤ (x : Int)) = false := decide_eq_false (by omega)
          have g3 : decide (48 ≤ x) = false := decide_eq_false h1
          clear hd
          go_wp2_with fail
          go_roundw
          case rel => exact ⟨k + 1, m, by go_num, rfl, by omega, hm, hid (by rw [HFC.out, HS.out]), hbw⟩
          case measure => simp [intOf]; omega
    · have hd : s.drop k = [] := List.drop_eq_nil_of_le (by rw [HN.out]; omega)
      have hNm : N = m := by rw [hf.out, hd]; rfl
      subst hNm
      have c1 := wrap_valI N hm
      clear hd hf HF HNL
      by_cases h0 : n = 0
      · have hsn : s.head? = none := by
          have : s = [] := List.eq_nil_of_length_eq_zero (by rw [HN.out]; exact h0)
          rw [this]; rfl
        have hv : V = valI N := by rw [HV.out, hsn, if_neg (by decide)]
        subst h0
        obtain rfl : k = 0 := by omega
        rw [← hv] at c1
        clear hv hsn
        go_wp2_with fail
        go_ret
        exact ⟨by rw [← c1]; rfl, hbw.out⟩
      · obtain ⟨c, hc⟩ : ∃ c, s[0]? = some c := ⟨s[0]'(by rw [HN.out]; omega), List.getElem?_eq_getElem _⟩
        have UI : ∀ W, (Instr.index 9 (.string ⟨s.toArray⟩) (.int .i64 0)).run Tryz.prog W = .ok (.int .u8 (c.toNat : Int)) W := fun W => str_at (k := 0) hc W
        have hh : s.head? = some c := by rw [List.head?_eq_getElem?]; exact hc
        have g1 : decide ((n : Int) > 0) = true := decide_eq_true (by omega)
        have g2 : decide (0 < (n : Int)) = true := decide_eq_true (by omega)
        have g3 : decide (0 < n) = true := decide_eq_true (by omega)
        clear hc
        by_cases h45 : c = 45
        · have hv : V = valI ((18446744073709551616 - N) % 18446744073709551616) := by rw [HV.out, hh, h45, if_pos rfl]
          have e1 := wrap_neg0 N hm
          subst h45
          have UI : ∀ W, (Instr.index 9 (.string ⟨s.toArray⟩) (.int .i64 0)).run Tryz.prog W = .ok (.int .u8 45) W := UI
          obtain ⟨M, hM⟩ : ∃ M, (18446744073709551616 - N) % 18446744073709551616 = M := ⟨_, rfl⟩
          have hMl : M < 18446744073709551616 := by rw [← hM]; omega
          have c2 := wrap_valI M hMl
          rw [hM] at e1 hv
          rw [← hv] at c2
          have e0 : IntKind.u64.wrap (0 - (N : Int)) = (M : Int) := by rw [← e1, Int.zero_sub]
          clear hM hMl hv hh c1
          go_wp2_with fail
          go_ret
          exact ⟨by rw [← c2]; rfl, hbw.out⟩
        · have hv : V = valI N := by rw [HV.out, hh, if_neg (by intro e; exact h45 (Option.some.inj e))]
          obtain ⟨x, hx⟩ : ∃ x, c.toNat = x := ⟨_, rfl⟩
          have hx45 : x ≠ 45 := fun e => h45 (by apply UInt8.toNat_inj.1; rw [hx, e]; rfl)
          have g4 : ((x : Int) == 45) = false := by rw [beq_eq_false_iff_ne]; omega
          have g5 : (x == 45) = false := by rw [beq_eq_false_iff_ne]; exact hx45
          rw [hx] at UI
          rw [← hv] at c1
          clear hv hx hh
          go_wp2_with fail
          go_ret
          exact ⟨by rw [← c1]; rfl, hbw.out⟩
end Go.Proofs.YtehagnbphamjhaaGreatDoor

namespace Go.Proofs.YtehagnbphamjhaaGreatDoor
open Go.RowKit
/-! ### the document's Line -/
set_option maxRecDepth 100000 in
set_option maxHeartbeats 12800000 in
theorem refLine_any {s : StepD} {a : Option Addr} {c n : Nat} {w : World} (hs : StepR w a s) (hn : Hid (s.data.length = n)) (hnl : n ≤ 1000000) :
    Calls Tryz.prog 62 #[.agg #[.int .i64 s.kind, .int .i64 s.a, .int .i64 s.b, .slice a n c]] w fun e w' => e = .returned (lineV (lineP s)) ∧ Below w.heap.size w w' := by
  obtain ⟨kd, av, bv, data⟩ := s
  obtain ⟨-, hok, hrow⟩ := hs
  obtain ⟨a1, a2, b1, b2, hd⟩ := hok
  simp only at a1 a2 b1 b2 hd hn hrow ⊢
  obtain ⟨r, hr⟩ : ∃ r, lineP ⟨kd, av, bv, data⟩ = r := ⟨_, rfl⟩
  rw [hr]
  have HR := hid hr
  clear hr
  obtain ⟨W1, hW1⟩ : ∃ W1, w.alloc (.cells #[.int .i64 kd, .int .i64 av, .int .i64 bv, .slice a n c] 62) = W1 := ⟨_, rfl⟩
  have hb1 : Below w.heap.size w W1 := by rw [← hW1]; exact (Below.refl _ _).alloc (Nat.le_refl _) _
  have c0 : W1.cell? ⟨w.heap.size, 0, none⟩ = some (.int .i64 kd) := by rw [← hW1]; simp
  have c1 : W1.cell? ⟨w.heap.size, 1, none⟩ = some (.int .i64 av) := by rw [← hW1]; simp
  have c2 : W1.cell? ⟨w.heap.size, 2, none⟩ = some (.int .i64 bv) := by rw [← hW1]; simp
  have c3 : W1.cell? ⟨w.heap.size, 3, none⟩ = some (.slice a n c) := by rw [← hW1]; simp
  have HA := hid (And.intro a1 a2)
  have HBV := hid (And.intro b1 b2)
  have HD := hid hd
  have HR1 := hid (hrow.ext hb1)
  have HB1 := hid hb1
  have C1 := refWord_any kd W1
  clear a1 a2 b1 b2 hd hrow hb1
  rcases word_shape kd with ⟨h0, -, hw, hh⟩ | ⟨x, h0, hxk, hw, hwne, hh⟩
  · have HRN : Hid (r = none) := hid (by rw [← HR.out]; unfold lineP; rw [h0])
    rw [hw, hh] at C1
    have C1 := hid C1
    clear h0 hw hh HA HBV HD HR HR1
    go_enter Tryz.func62, Tryz.ntmps62
    go_wp2_with fail
    refine C1.out.mono ?_
    rintro e w2 ⟨rfl, hb2⟩
    have HB2 := hid (HB1.out.trans (hb2.mono HB1.out.size))
    clear hb2 C1 hW1 HB1 c1 c2 c3 c0
    go_wp2_with fail
    refine bodyPost_ret (v := .tuple #[.string ⟨#[]⟩, .bool false]) (by simp [results, Tryz.results62, go_sem]) rfl ⟨by rw [HRN.out]; rfl, HB2.out⟩
  · obtain ⟨xk, word, two, bytes⟩ := x
    simp only at hxk hw hwne hh
    subst hxk
    have hlp : lineP ⟨xk, av, bv, data⟩ = if (two = false ∧ bv ≠ 0) ∨ (bytes = false ∧ data ≠ []) then none else some (lineS ⟨xk, word, two, bytes⟩ ⟨xk, av, bv, data⟩ ++ [10]) := by
      unfold lineP; rw [h0]
    have hwl : word.length ≤ 7 := (shapes_ok _ (shapeK_some h0).1).2.2.2.1
    have u1 : (word == []) = false := by simpa using hwne
    have u2 : word.isEmpty = false := by simpa using hwne
    rw [hw] at C1
    clear h0 hw hwne
    cases two <;> cases bytes
    · have hh : hasR xk = [] := hh
      rw [hh] at C1
      have C1 := hid C1
      clear hh
      by_cases hb0 : bv = 0
      · have gb : (bv != 0) = false := by simp [hb0]
        by_cases hd0 : n = 0
        · have gn : decide ((n : Int) > 0) = false := decide_eq_false (by omega)
          have gn1 : decide ((0 : Int) < (n : Int)) = false := decide_eq_false (by omega)
          have gn2 : decide (0 < n) = false := decide_eq_false (by omega)
          have hdn : data = [] := List.eq_nil_of_length_eq_zero (by rw [hn.out]; exact hd0)
          have HRR : Hid (r = some (lineS ⟨xk, word, false, false⟩ ⟨xk, av, bv, data⟩ ++ [10])) := hid (by rw [← HR.out, hlp, if_neg (by simp [hdn, hb0])])
          clear hlp HR hdn hd0 hb0
          go_enter Tryz.func62, Tryz.ntmps62
          go_wp2_with fail
          refine C1.out.mono ?_
          rintro e w2 ⟨rfl, hb2⟩
          have c1 := cell_toB c1 hb2
          have c2 := cell_toB c2 hb2
          have c3 := cell_toB c3 hb2
          have HB2 := hid (HB1.out.trans (hb2.mono HB1.out.size))
          have HR2 := hid (HR1.out.ext hb2)
          clear hb2 C1 hW1 HR1 HB1 c0
          have l1 := itoa_len av HA.out.1 HA.out.2
          have C2 := hid (refNumber_any av HA.out.1 HA.out.2 w2)
          obtain ⟨IA, hIA⟩ : ∃ I, Lib.itoa av = I := ⟨_, rfl⟩
          rw [hIA] at C2 l1
          have a0 := run_cat word [32] (by omega) (by simp)
          have a1 := run_cat (word ++ [32]) IA (by simp; omega) (by omega)
          obtain ⟨T1, hT1⟩ : ∃ T, word ++ [32] = T := ⟨_, rfl⟩
          rw [hT1] at a0 a1
          obtain ⟨T2, hT2⟩ : ∃ T, T1 ++ IA = T := ⟨_, rfl⟩
          rw [hT2] at a1
          have HT2 : Hid (T2 = word ++ [32] ++ Lib.itoa av ∧ T2.length ≤ 40) := hid ⟨by rw [← hT2, ← hT1, hIA], by rw [← hT2, ← hT1]; simp; omega⟩
          clear hT1 hT2 hIA l1 hwl
          go_wp2_with fail
          refine C2.out.mono ?_
          rintro e w3 ⟨rfl, hb3⟩
          have c2 := cell_toB c2 hb3
          have c3 := cell_toB c3 hb3
          have HB3 := hid (HB2.out.trans (hb3.mono HB2.out.size))
          have HR3 := hid (HR2.out.ext hb3)
          clear hb3 C2 HB2 HR2 c1
          have a6 := run_cat T2 [10] (by have := HT2.out.2; omega) (by simp)
          have HFIN : Hid (r = some (T2 ++ [10])) := hid (by rw [HRR.out, HT2.out.1]; simp [lineS])
          go_wp2_with fail
          refine bodyPost_ret (v := .tuple #[.string ⟨(T2 ++ [10]).toArray⟩, .bool true]) (by simp [results, Tryz.results62, go_sem]) rfl ⟨by rw [HFIN.out]; rfl, HB3.out⟩
        · have gn : decide ((n : Int) > 0) = true := decide_eq_true (by omega)
          have gn1 : decide ((0 : Int) < (n : Int)) = true := decide_eq_true (by omega)
          have gn2 : decide (0 < n) = true := decide_eq_true (by omega)
          have hdn : data ≠ [] := fun e => hd0 (by rw [← hn.out, e]; rfl)
          have HRR : Hid (r = none) := hid (by rw [← HR.out, hlp, if_pos (.inr ⟨rfl, hdn⟩)])
          clear hlp HR hdn hd0 hb0
          go_enter Tryz.func62, Tryz.ntmps62
          go_wp2_with fail
          refine C1.out.mono ?_
          rintro e w2 ⟨rfl, hb2⟩
          have c1 := cell_toB c1 hb2
          have c2 := cell_toB c2 hb2
          have c3 := cell_toB c3 hb2
          have HB2 := hid (HB1.out.trans (hb2.mono HB1.out.size))
          have HR2 := hid (HR1.out.ext hb2)
          clear hb2 C1 hW1 HR1 HB1 c0
          go_wp2_with fail
          refine bodyPost_ret (v := .tuple #[.string ⟨#[]⟩, .bool false]) (by simp [results, Tryz.results62, go_sem]) rfl ⟨by rw [HRR.out]; rfl, HB2.out⟩
      · have gb : (bv != 0) = true := by simpa using hb0
        have HRR : Hid (r = none) := hid (by rw [← HR.out, hlp, if_pos (.inl ⟨rfl, hb0⟩)])
        clear hlp HR hb0
        go_enter Tryz.func62, Tryz.ntmps62
        go_wp2_with fail
        refine C1.out.mono ?_
        rintro e w2 ⟨rfl, hb2⟩
        have c1 := cell_toB c1 hb2
        have c2 := cell_toB c2 hb2
        have c3 := cell_toB c3 hb2
        have HB2 := hid (HB1.out.trans (hb2.mono HB1.out.size))
        have HR2 := hid (HR1.out.ext hb2)
        clear hb2 C1 hW1 HR1 HB1 c0
        go_wp2_with fail
        refine bodyPost_ret (v := .tuple #[.string ⟨#[]⟩, .bool false]) (by simp [results, Tryz.results62, go_sem]) rfl ⟨by rw [HRR.out]; rfl, HB2.out⟩
    · have hh : hasR xk = [120] := hh
      rw [hh] at C1
      have C1 := hid C1
      clear hh
      by_cases hb0 : bv = 0
      · have gb : (bv != 0) = false := by simp [hb0]
        have HRR : Hid (r = some (lineS ⟨xk, word, false, true⟩ ⟨xk, av, bv, data⟩ ++ [10])) := hid (by rw [← HR.out, hlp, if_neg (by simp [hb0])])
        clear hlp HR hb0
        go_enter Tryz.func62, Tryz.ntmps62
        go_wp2_with fail
        refine C1.out.mono ?_
        rintro e w2 ⟨rfl, hb2⟩
        have c1 := cell_toB c1 hb2
        have c2 := cell_toB c2 hb2
        have c3 := cell_toB c3 hb2
        have HB2 := hid (HB1.out.trans (hb2.mono HB1.out.size))
        have HR2 := hid (HR1.out.ext hb2)
        clear hb2 C1 hW1 HR1 HB1 c0
        have l1 := itoa_len av HA.out.1 HA.out.2
        have C2 := hid (refNumber_any av HA.out.1 HA.out.2 w2)
        obtain ⟨IA, hIA⟩ : ∃ I, Lib.itoa av = I := ⟨_, rfl⟩
        rw [hIA] at C2 l1
        have a0 := run_cat word [32] (by omega) (by simp)
        have a1 := run_cat (word ++ [32]) IA (by simp; omega) (by omega)
        obtain ⟨T1, hT1⟩ : ∃ T, word ++ [32] = T := ⟨_, rfl⟩
        rw [hT1] at a0 a1
        obtain ⟨T2, hT2⟩ : ∃ T, T1 ++ IA = T := ⟨_, rfl⟩
        rw [hT2] at a1
        have HT2 : Hid (T2 = word ++ [32] ++ Lib.itoa av ∧ T2.length ≤ 40) := hid ⟨by rw [← hT2, ← hT1, hIA], by rw [← hT2, ← hT1]; simp; omega⟩
        clear hT1 hT2 hIA l1 hwl
        go_wp2_with fail
        refine C2.out.mono ?_
        rintro e w3 ⟨rfl, hb3⟩
        have c2 := cell_toB c2 hb3
        have c3 := cell_toB c3 hb3
        have HB3 := hid (HB2.out.trans (hb3.mono HB2.out.size))
        have HR3 := hid (HR2.out.ext hb3)
        clear hb3 C2 HB2 HR2 c1
        have a4 := run_cat T2 [32, 120] (by have := HT2.out.2; omega) (by simp)
        obtain ⟨T5, hT5⟩ : ∃ T, T2 ++ [32, 120] = T := ⟨_, rfl⟩
        rw [hT5] at a4
        have HT5 : Hid (r = some (T5 ++ hexP (data.drop 0) ++ [10]) ∧ T5.length ≤ 100) := hid ⟨by rw [HRR.out, ← hT5, HT2.out.1, List.drop_zero]; simp [lineS], by rw [← hT5]; have := HT2.out.2; simp; omega⟩
        clear hT5
        go_wp2_with fail
        clear a4
        go_loopw [8, 9] (fun vo iv wr => ∃ (out : Str) (k : Nat), vo = .string ⟨out.toArray⟩ ∧ iv = .int .i64 k ∧ k ≤ n ∧ out.length ≤ 100 + 2 * k ∧ Hid (r = some (out ++ hexP (data.drop k) ++ [10])) ∧ Hid (Below w3.heap.size w3 wr)) (fun _ iv _ => n - (intOf iv).toNat)
        case atStart => exact ⟨T5, 0, rfl, rfl, Nat.zero_le _, by have := HT5.out.2; omega, hid HT5.out.1, hid (Below.refl _ _)⟩
        case round =>
          obtain ⟨out, k, rfl, rfl, hk, hol, hf, hbw⟩ := hrel
          have c3 := cell_toB c3 hbw.out
          by_cases hlt : k < n
          · have hk1 : k < data.length := by rw [hn.out]; exact hlt
            obtain ⟨b, o, x, rfl, hxk, q0⟩ := HR3.out.at hbw.out rfl hk1
            have hx256 : x < 256 := by rw [hxk]; exact HD.out _ (List.getElem_mem hk1)
            have HDR := hid (hexP_drop hk1 hxk)
            have U1 := run_hexD (x / 16) (by omega)
            have U2 := run_hexD (x % 16) (by omega)
            have e1 : ((x / 16 : Nat) : Int) = (x : Int) / 16 := by omega
            have e2 : ((x % 16 : Nat) : Int) = (x : Int) % 16 := by omega
            rw [e1] at U1
            rw [e2] at U2
            have a1 := run_cat out [hexD (x / 16)] (by omega) (by simp)
            have a2 := run_cat (out ++ [hexD (x / 16)]) [hexD (x % 16)] (by simp; omega) (by simp)
            have hol2 : (out ++ [hexD (x / 16)] ++ [hexD (x % 16)]).length ≤ 100 + 2 * (k + 1) := by simp; omega
            have HO := hid hol2
            clear hxk e1 e2 hol hol2
            go_wp2_with fail
            refine wp_region_ext (w := wr) (Below.refl _ _) (by kernel_rfl) (by kernel_rfl) ?_
            repeat (go_big_quiet_step (fail))
            refine wpQuiet_nil ?_
            rintro w9 ⟨⟨_, hb9⟩, rfl⟩
            have HB9 := hid (hbw.out.trans (hb9.mono hbw.out.size))
            clear hb9 U1 U2 a1 a2 q0
            go_wp2_with fail
            go_roundw
            case rel => exact ⟨out ++ [hexD (x / 16)] ++ [hexD (x % 16)], k + 1, by simp, by go_num, by omega, HO.out, hid (by rw [hf.out, HDR.out]; simp), HB9⟩
            case measure => simp [intOf]; omega
          · have hke : data.drop k = [] := List.drop_eq_nil_of_le (by rw [hn.out]; omega)
            have HFIN : Hid (r = some (out ++ [10])) := hid (by rw [hf.out, hke]; simp [hexP])
            have a6 := run_cat out [10] (by omega) (by simp)
            have HBF := hid (HB3.out.trans (hbw.out.mono HB3.out.size))
            clear hke
            go_wp2_with fail
            refine bodyPost_ret (v := .tuple #[.string ⟨(out ++ [10]).toArray⟩, .bool true]) (by simp [results, Tryz.results62, go_sem]) rfl ⟨by rw [HFIN.out]; rfl, HBF.out⟩
      · have gb : (bv != 0) = true := by simpa using hb0
        have HRR : Hid (r = none) := hid (by rw [← HR.out, hlp, if_pos (.inl ⟨rfl, hb0⟩)])
        clear hlp HR hb0
        go_enter Tryz.func62, Tryz.ntmps62
        go_wp2_with fail
        refine C1.out.mono ?_
        rintro e w2 ⟨rfl, hb2⟩
        have c1 := cell_toB c1 hb2
        have c2 := cell_toB c2 hb2
        have c3 := cell_toB c3 hb2
        have HB2 := hid (HB1.out.trans (hb2.mono HB1.out.size))
        have HR2 := hid (HR1.out.ext hb2)
        clear hb2 C1 hW1 HR1 HB1 c0
        go_wp2_with fail
        refine bodyPost_ret (v := .tuple #[.string ⟨#[]⟩, .bool false]) (by simp [results, Tryz.results62, go_sem]) rfl ⟨by rw [HRR.out]; rfl, HB2.out⟩
    · have hh : hasR xk = [98] := hh
      rw [hh] at C1
      have C1 := hid C1
      clear hh
      by_cases hd0 : n = 0
      · have gn : decide ((n : Int) > 0) = false := decide_eq_false (by omega)
        have gn1 : decide ((0 : Int) < (n : Int)) = false := decide_eq_false (by omega)
        have gn2 : decide (0 < n) = false := decide_eq_false (by omega)
        have hdn : data = [] := List.eq_nil_of_length_eq_zero (by rw [hn.out]; exact hd0)
        have HRR : Hid (r = some (lineS ⟨xk, word, true, false⟩ ⟨xk, av, bv, data⟩ ++ [10])) := hid (by rw [← HR.out, hlp, if_neg (by simp [hdn])])
        clear hlp HR hdn hd0
        go_enter Tryz.func62, Tryz.ntmps62
        go_wp2_with fail
        refine C1.out.mono ?_
        rintro e w2 ⟨rfl, hb2⟩
        have c1 := cell_toB c1 hb2
        have c2 := cell_toB c2 hb2
        have c3 := cell_toB c3 hb2
        have HB2 := hid (HB1.out.trans (hb2.mono HB1.out.size))
        have HR2 := hid (HR1.out.ext hb2)
        clear hb2 C1 hW1 HR1 HB1 c0
        have l1 := itoa_len av HA.out.1 HA.out.2
        have C2 := hid (refNumber_any av HA.out.1 HA.out.2 w2)
        obtain ⟨IA, hIA⟩ : ∃ I, Lib.itoa av = I := ⟨_, rfl⟩
        rw [hIA] at C2 l1
        have a0 := run_cat word [32] (by omega) (by simp)
        have a1 := run_cat (word ++ [32]) IA (by simp; omega) (by omega)
        obtain ⟨T1, hT1⟩ : ∃ T, word ++ [32] = T := ⟨_, rfl⟩
        rw [hT1] at a0 a1
        obtain ⟨T2, hT2⟩ : ∃ T, T1 ++ IA = T := ⟨_, rfl⟩
        rw [hT2] at a1
        have HT2 : Hid (T2 = word ++ [32] ++ Lib.itoa av ∧ T2.length ≤ 40) := hid ⟨by rw [← hT2, ← hT1, hIA], by rw [← hT2, ← hT1]; simp; omega⟩
        clear hT1 hT2 hIA l1 hwl
        go_wp2_with fail
        refine C2.out.mono ?_
        rintro e w3 ⟨rfl, hb3⟩
        have c2 := cell_toB c2 hb3
        have c3 := cell_toB c3 hb3
        have HB3 := hid (HB2.out.trans (hb3.mono HB2.out.size))
        have HR3 := hid (HR2.out.ext hb3)
        clear hb3 C2 HB2 HR2 c1
        have l2 := itoa_len bv HBV.out.1 HBV.out.2
        have C3 := hid (refNumber_any bv HBV.out.1 HBV.out.2 w3)
        obtain ⟨IB, hIB⟩ : ∃ I, Lib.itoa bv = I := ⟨_, rfl⟩
        rw [hIB] at C3 l2
        have a2 := run_cat T2 [32] (by have := HT2.out.2; omega) (by simp)
        have a3 := run_cat (T2 ++ [32]) IB (by have := HT2.out.2; simp; omega) (by omega)
        obtain ⟨T3, hT3⟩ : ∃ T, T2 ++ [32] = T := ⟨_, rfl⟩
        rw [hT3] at a2 a3
        obtain ⟨T4, hT4⟩ : ∃ T, T3 ++ IB = T := ⟨_, rfl⟩
        rw [hT4] at a3
        have HT4 : Hid (T4 = T2 ++ ([32] ++ Lib.itoa bv) ∧ T4.length ≤ 80) := hid ⟨by rw [← hT4, ← hT3, hIB, List.append_assoc], by rw [← hT4, ← hT3]; have := HT2.out.2; simp; omega⟩
        clear hT3 hT4 hIB l2
        go_wp2_with fail
        refine C3.out.mono ?_
        rintro e w4 ⟨rfl, hb4⟩
        have c3 := cell_toB c3 hb4
        have HB4 := hid (HB3.out.trans (hb4.mono HB3.out.size))
        have HR4 := hid (HR3.out.ext hb4)
        clear hb4 C3 HB3 HR3 c2 a0 a1
        have a6 := run_cat T4 [10] (by have := HT4.out.2; omega) (by simp)
        have HFIN : Hid (r = some (T4 ++ [10])) := hid (by rw [HRR.out, HT4.out.1, HT2.out.1]; simp [lineS])
        go_wp2_with fail
        refine bodyPost_ret (v := .tuple #[.string ⟨(T4 ++ [10]).toArray⟩, .bool true]) (by simp [results, Tryz.results62, go_sem]) rfl ⟨by rw [HFIN.out]; rfl, HB4.out⟩
      · have gn : decide ((n : Int) > 0) = true := decide_eq_true (by omega)
        have gn1 : decide ((0 : Int) < (n : Int)) = true := decide_eq_true (by omega)
        have gn2 : decide (0 < n) = true := decide_eq_true (by omega)
        have hdn : data ≠ [] := fun e => hd0 (by rw [← hn.out, e]; rfl)
        have HRR : Hid (r = none) := hid (by rw [← HR.out, hlp, if_pos (.inr ⟨rfl, hdn⟩)])
        clear hlp HR hdn hd0
        go_enter Tryz.func62, Tryz.ntmps62
        go_wp2_with fail
        refine C1.out.mono ?_
        rintro e w2 ⟨rfl, hb2⟩
        have c1 := cell_toB c1 hb2
        have c2 := cell_toB c2 hb2
        have c3 := cell_toB c3 hb2
        have HB2 := hid (HB1.out.trans (hb2.mono HB1.out.size))
        have HR2 := hid (HR1.out.ext hb2)
        clear hb2 C1 hW1 HR1 HB1 c0
        go_wp2_with fail
        refine bodyPost_ret (v := .tuple #[.string ⟨#[]⟩, .bool false]) (by simp [results, Tryz.results62, go_sem]) rfl ⟨by rw [HRR.out]; rfl, HB2.out⟩
    · have hh : hasR xk = [98, 120] := hh
      rw [hh] at C1
      have C1 := hid C1
      clear hh
      have HRR : Hid (r = some (lineS ⟨xk, word, true, true⟩ ⟨xk, av, bv, data⟩ ++ [10])) := hid (by rw [← HR.out, hlp, if_neg (by simp)])
      clear hlp HR
      go_enter Tryz.func62, Tryz.ntmps62
      go_wp2_with fail
      refine C1.out.mono ?_
      rintro e w2 ⟨rfl, hb2⟩
      have c1 := cell_toB c1 hb2
      have c2 := cell_toB c2 hb2
      have c3 := cell_toB c3 hb2
      have HB2 := hid (HB1.out.trans (hb2.mono HB1.out.size))
      have HR2 := hid (HR1.out.ext hb2)
      clear hb2 C1 hW1 HR1 HB1 c0
      have l1 := itoa_len av HA.out.1 HA.out.2
      have C2 := hid (refNumber_any av HA.out.1 HA.out.2 w2)
      obtain ⟨IA, hIA⟩ : ∃ I, Lib.itoa av = I := ⟨_, rfl⟩
      rw [hIA] at C2 l1
      have a0 := run_cat word [32] (by omega) (by simp)
      have a1 := run_cat (word ++ [32]) IA (by simp; omega) (by omega)
      obtain ⟨T1, hT1⟩ : ∃ T, word ++ [32] = T := ⟨_, rfl⟩
      rw [hT1] at a0 a1
      obtain ⟨T2, hT2⟩ : ∃ T, T1 ++ IA = T := ⟨_, rfl⟩
      rw [hT2] at a1
      have HT2 : Hid (T2 = word ++ [32] ++ Lib.itoa av ∧ T2.length ≤ 40) := hid ⟨by rw [← hT2, ← hT1, hIA], by rw [← hT2, ← hT1]; simp; omega⟩
      clear hT1 hT2 hIA l1 hwl
      go_wp2_with fail
      refine C2.out.mono ?_
      rintro e w3 ⟨rfl, hb3⟩
      have c2 := cell_toB c2 hb3
      have c3 := cell_toB c3 hb3
      have HB3 := hid (HB2.out.trans (hb3.mono HB2.out.size))
      have HR3 := hid (HR2.out.ext hb3)
      clear hb3 C2 HB2 HR2 c1
      have l2 := itoa_len bv HBV.out.1 HBV.out.2
      have C3 := hid (refNumber_any bv HBV.out.1 HBV.out.2 w3)
      obtain ⟨IB, hIB⟩ : ∃ I, Lib.itoa bv = I := ⟨_, rfl⟩
      rw [hIB] at C3 l2
      have a2 := run_cat T2 [32] (by have := HT2.out.2; omega) (by simp)
      have a3 := run_cat (T2 ++ [32]) IB (by have := HT2.out.2; simp; omega) (by omega)
      obtain ⟨T3, hT3⟩ : ∃ T, T2 ++ [32] = T := ⟨_, rfl⟩
      rw [hT3] at a2 a3
      obtain ⟨T4, hT4⟩ : ∃ T, T3 ++ IB = T := ⟨_, rfl⟩
      rw [hT4] at a3
      have HT4 : Hid (T4 = T2 ++ ([32] ++ Lib.itoa bv) ∧ T4.length ≤ 80) := hid ⟨by rw [← hT4, ← hT3, hIB, List.append_assoc], by rw [← hT4, ← hT3]; have := HT2.out.2; simp; omega⟩
      clear hT3 hT4 hIB l2
      go_wp2_with fail
      refine C3.out.mono ?_
      rintro e w4 ⟨rfl, hb4⟩
      have c3 := cell_toB c3 hb4
      have HB4 := hid (HB3.out.trans (hb4.mono HB3.out.size))
      have HR4 := hid (HR3.out.ext hb4)
      clear hb4 C3 HB3 HR3 c2 a0 a1
      have a4 := run_cat T4 [32, 120] (by have := HT4.out.2; omega) (by simp)
      obtain ⟨T5, hT5⟩ : ∃ T, T4 ++ [32, 120] = T := ⟨_, rfl⟩
      rw [hT5] at a4
      have HT5 : Hid (r = some (T5 ++ hexP (data.drop 0) ++ [10]) ∧ T5.length ≤ 100) := hid ⟨by rw [HRR.out, ← hT5, HT4.out.1, HT2.out.1, List.drop_zero]; simp [lineS], by rw [← hT5]; have := HT4.out.2; simp; omega⟩
      clear hT5
      go_wp2_with fail
      clear a4
      go_loopw [8, 9] (fun vo iv wr => ∃ (out : Str) (k : Nat), vo = .string ⟨out.toArray⟩ ∧ iv = .int .i64 k ∧ k ≤ n ∧ out.length ≤ 100 + 2 * k ∧ Hid (r = some (out ++ hexP (data.drop k) ++ [10])) ∧ Hid (Below w4.heap.size w4 wr)) (fun _ iv _ => n - (intOf iv).toNat)
      case atStart => exact ⟨T5, 0, rfl, rfl, Nat.zero_le _, by have := HT5.out.2; omega, hid HT5.out.1, hid (Below.refl _ _)⟩
      case round =>
        obtain ⟨out, k, rfl, rfl, hk, hol, hf, hbw⟩ := hrel
        have c3 := cell_toB c3 hbw.out
        by_cases hlt : k < n
        · have hk1 : k < data.length := by rw [hn.out]; exact hlt
          obtain ⟨b, o, x, rfl, hxk, q0⟩ := HR4.out.at hbw.out rfl hk1
          have hx256 : x < 256 := by rw [hxk]; exact HD.out _ (List.getElem_mem hk1)
          have HDR := hid (hexP_drop hk1 hxk)
          have U1 := run_hexD (x / 16) (by omega)
          have U2 := run_hexD (x % 16) (by omega)
          have e1 : ((x / 16 : Nat) : Int) = (x : Int) / 16 := by omega
          have e2 : ((x % 16 : Nat) : Int) = (x : Int) % 16 := by omega
          rw [e1] at U1
          rw [e2] at U2
          have a1 := run_cat out [hexD (x / 16)] (by omega) (by simp)
          have a2 := run_cat (out ++ [hexD (x / 16)]) [hexD (x % 16)] (by simp; omega) (by simp)
          have hol2 : (out ++ [hexD (x / 16)] ++ [hexD (x % 16)]).length ≤ 100 + 2 * (k + 1) := by simp; omega
          have HO := hid hol2
          clear hxk e1 e2 hol hol2
          go_wp2_with fail
          refine wp_region_ext (w := wr) (Below.refl _ _) (by kernel_rfl) (by kernel_rfl) ?_
          repeat (go_big_quiet_step (fail))
          refine wpQuiet_nil ?_
          rintro w9 ⟨⟨_, hb9⟩, rfl⟩
          have HB9 := hid (hbw.out.trans (hb9.mono hbw.out.size))
          clear hb9 U1 U2 a1 a2 q0
          go_wp2_with fail
          go_roundw
          case rel => exact ⟨out ++ [hexD (x / 16)] ++ [hexD (x % 16)], k + 1, by simp, by go_num, by omega, HO.out, hid (by rw [hf.out, HDR.out]; simp), HB9⟩
          case measure => simp [intOf]; omega
        · have hke : data.drop k = [] := List.drop_eq_nil_of_le (by rw [hn.out]; omega)
          have HFIN : Hid (r = some (out ++ [10])) := hid (by rw [hf.out, hke]; simp [hexP])
          have a6 := run_cat out [10] (by omega) (by simp)
          have HBF := hid (HB4.out.trans (hbw.out.mono HB4.out.size))
          clear hke
          go_wp2_with fail
          refine bodyPost_ret (v := .tuple #[.string ⟨(out ++ [10]).toArray⟩, .bool true]) (by simp [results, Tryz.results62, go_sem]) rfl ⟨by rw [HFIN.out]; rfl, HBF.out⟩
end Go.Proofs.YtehagnbphamjhaaGreatDoor

namespace Go.Proofs.YtehagnbphamjhaaGreatDoor
open Go.RowKit
/-! ### the document's parts -/
theorem str_cut {s : Str} {i j : Nat} (h1 : i ≤ j) (h2 : j ≤ s.length) (W : World) : (Instr.slice 9 (.string ⟨s.toArray⟩) (some (.int .i64 (i : Int))) (some (.int .i64 (j : Int))) none).run Tryz.prog W = .ok (.string ⟨((s.drop i).take (j - i)).toArray⟩) W := by
  have hz : (⟨s.toArray⟩ : ByteArray).size = s.length := by show s.toArray.size = _; simp
  rw [run_slice_string W 9 _ .i64 .i64 _ _ Tryz.underlying9 (by omega) (by omega) (by rw [hz]; omega)]
  congr 2
  apply ByteArray.ext
  simp
theorem split_at32 {s : Str} {fr k : Nat} (h1 : fr ≤ k) (h2 : s[k]? = some 32) (h3 : ∀ j, fr ≤ j → j < k → s[j]? ≠ some 32) : Lib.split (s.drop fr) [32] = ((s.drop fr).take (k - fr)) :: Lib.split (s.drop (k + 1)) [32] := by
  have hk := (List.getElem?_eq_some_iff.1 h2).1
  have hs : s[k] = 32 := by rw [List.getElem?_eq_getElem hk] at h2; exact Option.some.inj h2
  have e : s.drop fr = (s.drop fr).take (k - fr) ++ 32 :: s.drop (k + 1) := by
    have e1 : (s.drop fr).drop (k - fr) = 32 :: s.drop (k + 1) := by
      rw [List.drop_drop, show fr + (k - fr) = k by omega, List.drop_eq_getElem_cons hk, hs]
    rw [← e1, List.take_append_drop]
  have hno : (32 : UInt8) ∉ (s.drop fr).take (k - fr) := by
    intro hm
    obtain ⟨j, hj⟩ := List.mem_iff_getElem?.1 hm
    have hjl : j < k - fr := by
      have := (List.getElem?_eq_some_iff.1 hj).1
      rw [List.length_take] at this
      omega
    rw [List.getElem?_take_of_lt hjl, List.getElem?_drop] at hj
    exact h3 _ (by omega) (by omega) hj
  rw [congrArg (fun t => Lib.split t [32]) e, splc_app hno]
theorem split_end32 {s : Str} {fr : Nat} (h3 : ∀ j, fr ≤ j → j < s.length → s[j]? ≠ some 32) : Lib.split (s.drop fr) [32] = [s.drop fr] := by
  refine splc_no fun hm => ?_
  obtain ⟨j, hj⟩ := List.mem_iff_getElem?.1 hm
  have hjl : j < s.length - fr := by
    have := (List.getElem?_eq_some_iff.1 hj).1
    rw [List.length_drop] at this
    omega
  rw [List.getElem?_drop] at hj
  exact h3 _ (by omega) (by omega) hj
theorem infoStrQ : (Tryz.prog.info? 9).map (fun i => (i.zero, i.size, i.bytes)) = some (some (.string ⟨#[]⟩), 1, 16) := by kernel_rfl
theorem cells1_new (W : World) (t : TypeId) (x0 : Value) : ∀ j u, [x0][j]? = some u → (W.alloc (.cells #[x0] t)).cell? ⟨W.heap.size, j, none⟩ = some u := fun j u hj => by
  match j, hj with
  | 0, hj => simp at hj; subst hj; simp
  | j + 1, hj => simp at hj
def strV (t : Str) : List Value := [.string ⟨t.toArray⟩]
/-- an own row of texts is a row of texts -/
theorem own_strs {w : World} {base : Nat} {v : Value} {L : List Str} (h : OwnK w base 9 1 v (L.map strV)) (h0 : L ≠ []) : ∃ b c, v = .slice (some ⟨b, 0, none⟩) L.length c ∧ base ≤ b ∧ StrRow w b L := by
  have hl : 0 < L.length := List.length_pos_iff.2 h0
  obtain ⟨g, c, e, hb, hg, -⟩ := h.at (i := 0) (x := strV L[0]) (by rw [List.getElem?_map, List.getElem?_eq_getElem hl]; rfl)
  refine ⟨g, c, by rw [e, List.length_map], hb, hg, fun k hk => ?_⟩
  obtain ⟨g2, c2, e2, -, -, hc⟩ := h.at (i := k) (x := strV L[k]) (by rw [List.getElem?_map, List.getElem?_eq_getElem hk]; rfl)
  rw [e] at e2
  injection e2 with e3 _ _
  injection e3 with e3
  injection e3 with e3 _
  subst e3
  have := hc 0 _ rfl
  simpa using this
set_option maxRecDepth 100000 in
set_option maxHeartbeats 6400000 in
theorem refParts_any {s : Str} {w : World} (hs : s.length ≤ 900000) :
    Calls Tryz.prog 58 #[.string ⟨s.toArray⟩] w fun e w' => ∃ b c, e = .returned (.slice (some ⟨b, 0, none⟩) (Lib.split s [32]).length c) ∧ StrRow w' b (Lib.split s [32]) ∧ w.heap.size ≤ b ∧ Below w.heap.size w w' := by
  obtain ⟨n, hn⟩ : ∃ n, s.length = n := ⟨_, rfl⟩
  have hz : (⟨s.toArray⟩ : ByteArray).size = n := by rw [← hn]; show s.toArray.size = _; simp
  obtain ⟨L, hL⟩ : ∃ L, Lib.split s [32] = L := ⟨_, rfl⟩
  have hne : L ≠ [] := by obtain ⟨w0, rest, e⟩ := split_ne s 32; rw [← hL, e]; simp
  rw [hL]
  rw [hn] at hs
  have HN := hid hn
  have HL0 : Hid (L = [] ++ Lib.split (s.drop 0) [32]) := hid (by rw [List.drop_zero, hL, List.nil_append])
  have HNE := hid hne
  obtain ⟨i0, hi, hz0, hz1, hz2⟩ := info_parts infoStrQ
  clear hn hL hne
  go_enter Tryz.func58, Tryz.ntmps58
  go_wp2_with fail
  go_loopw [3, 4, 5] (fun v fv iv wr => ∃ (k fr : Nat) (out : List Str), iv = .int .i64 k ∧ fv = .int .i64 fr ∧ k ≤ n + 1 ∧ fr ≤ k ∧ Hid (out.length ≤ k) ∧ Hid (∀ j, fr ≤ j → j < k → s[j]? ≠ some 32) ∧ Hid (k ≤ n → L = out ++ Lib.split (s.drop fr) [32]) ∧ Hid (n < k → L = out) ∧ Hid (OwnK wr w.heap.size 9 1 v (out.map strV)) ∧ Hid (Below w.heap.size w wr)) (fun _ _ iv _ => n + 1 - (intOf iv).toNat)
  case atStart => exact ⟨0, 0, [], rfl, rfl, Nat.zero_le _, Nat.le_refl _, hid (Nat.le_refl _), hid (fun j h1 h2 => absurd h2 (Nat.not_lt_zero _)), hid (fun _ => HL0.out), hid (fun h => absurd h (Nat.not_lt_zero _)), hid (OwnK.nil _ _ _ _), hid (Below.refl _ _)⟩
  case round =>
    obtain ⟨k, fr, out, rfl, rfl, hk, hfr, hol, hno, hf, hg, how, hbw⟩ := hrel
    by_cases hlt : k ≤ n
    · have d1 : decide ((k : Int) ≤ (n : Int)) = true := decide_eq_true (by omega)
      have d2 : decide (k ≤ n) = true := decide_eq_true hlt
      have HCUT : Hid (k ≤ s.length) := hid (by rw [HN.out]; exact hlt)
      have US := fun W => str_cut hfr HCUT.out W
      obtain ⟨P, hP⟩ : ∃ P, (s.drop fr).take (k - fr) = P := ⟨_, rfl⟩
      rw [hP] at US
      have HP := hid hP
      have HXL : Hid ((out.map strV).length + 1 ≤ 1000000) := hid (by rw [List.length_map]; have := hol.out; omega)
      have HSZ := hid hbw.out.size
      clear hP
      by_cases hkn : k = n
      · have g1 : ((k : Int) == (n : Int)) = true := by rw [hkn]; simp
        have g2 : (k == n) = true := by simp [hkn]
        have HLN : Hid (L = out ++ [P]) := hid (by
          have e : P = s.drop fr := by rw [← HP.out, List.take_of_length_le (by rw [List.length_drop, HN.out]; omega)]
          rw [hf.out hlt, e, split_end32 (fun j h1 h2 => hno.out j h1 (by rw [HN.out] at h2; omega))])
        have HKN : Hid (n < k + 1) := hid (by omega)
        clear hkn HL0 hf hg hno
        go_wp2_with (at_builtin; refine wpList_appendEP (el := [.string ⟨P.toArray⟩]) (b := wr.heap.size) Tryz.underlying85 hi hz0 hz1 hz2 rfl (by decide) (by decide) (how.out.ext ((Below.refl _ _).alloc (Nat.le_refl _) _)) rfl (fun u hu => by simp at hu; subst hu; rfl) (cells1_new _ _ _) HXL.out (by have := HSZ.out; simp; omega) rfl rfl rfl rfl ?_; intro v6 w6 hown6 hm6 hn6)
        have HB6 : Hid (Below w.heap.size w w6) := hid (by
          have hmw : Mut (fun g => u3.ownBlock = some g) wr w6 := (Mut.of_below ((Below.refl _ _).alloc (Nat.le_refl _) _)).trans (hm6.mono fun k _ e => e)
          exact hbw.out.trans (hmw.below HSZ.out fun b e => (how.out.blk e).1))
        have HO6 : Hid (OwnK w6 w.heap.size 9 1 v6 ((out ++ [P]).map strV)) := hid (by rw [List.map_append]; exact hown6)
        clear hm6 hn6 hown6
        go_wp2_with fail
        go_roundw
        case rel => exact ⟨k + 1, k + 1, out ++ [P], by go_num, by go_num, by omega, Nat.le_refl _, hid (by have := hol.out; simp; omega), hid (fun j h1 h2 => by omega), hid (fun h => by have := HKN.out; omega), hid (fun _ => HLN.out), HO6, HB6⟩
        case measure => simp [intOf]; omega
      · have g1 : ((k : Int) == (n : Int)) = false := by rw [beq_eq_false_iff_ne]; omega
        have g2 : (k == n) = false := by rw [beq_eq_false_iff_ne]; exact hkn
        obtain ⟨c, hc⟩ : ∃ c, s[k]? = some c := ⟨s[k]'(by rw [HN.out]; omega), List.getElem?_eq_getElem _⟩
        have UI := fun W => str_at hc W
        have HC := hid hc
        have HKL : Hid (k < n) := hid (by omega)
        clear hc
        by_cases h32 : c = 32
        · subst h32
          have UI : ∀ W, (Instr.index 9 (.string ⟨s.toArray⟩) (.int .i64 (k : Int))).run Tryz.prog W = .ok (.int .u8 32) W := UI
          have HLN : Hid (L = (out ++ [P]) ++ Lib.split (s.drop (k + 1)) [32]) := hid (by
            rw [hf.out hlt, split_at32 hfr HC.out hno.out, HP.out, List.append_assoc]; rfl)
          clear hkn HL0 hf hg hno
          go_wp2_with (at_builtin; refine wpList_appendEP (el := [.string ⟨P.toArray⟩]) (b := wr.heap.size) Tryz.underlying85 hi hz0 hz1 hz2 rfl (by decide) (by decide) (how.out.ext ((Below.refl _ _).alloc (Nat.le_refl _) _)) rfl (fun u hu => by simp at hu; subst hu; rfl) (cells1_new _ _ _) HXL.out (by have := HSZ.out; simp; omega) rfl rfl rfl rfl ?_; intro v6 w6 hown6 hm6 hn6)
          have HB6 : Hid (Below w.heap.size w w6) := hid (by
            have hmw : Mut (fun g => u3.ownBlock = some g) wr w6 := (Mut.of_below ((Below.refl _ _).alloc (Nat.le_refl _) _)).trans (hm6.mono fun k _ e => e)
            exact hbw.out.trans (hmw.below HSZ.out fun b e => (how.out.blk e).1))
          have HO6 : Hid (OwnK w6 w.heap.size 9 1 v6 ((out ++ [P]).map strV)) := hid (by rw [List.map_append]; exact hown6)
          clear hm6 hn6 hown6
          go_wp2_with fail
          go_roundw
          case rel => exact ⟨k + 1, k + 1, out ++ [P], by go_num, by go_num, by omega, Nat.le_refl _, hid (by have := hol.out; simp; omega), hid (fun j h1 h2 => by omega), hid (fun _ => HLN.out), hid (fun h => by have := HKL.out; omega), HO6, HB6⟩
          case measure => simp [intOf]; omega
        · obtain ⟨x, hx⟩ : ∃ x, c.toNat = x := ⟨_, rfl⟩
          have hx32 : x ≠ 32 := fun e => h32 (by apply UInt8.toNat_inj.1; rw [hx, e]; rfl)
          have g4 : ((x : Int) == 32) = false := by rw [beq_eq_false_iff_ne]; omega
          have g5 : (x == 32) = false := by rw [beq_eq_false_iff_ne]; exact hx32
          rw [hx] at UI
          have HNO : Hid (∀ j, fr ≤ j → j < k + 1 → s[j]? ≠ some 32) := hid (fun j h1 h2 => by
            by_cases e : j = k
            · subst e; rw [HC.out]; intro e2; exact h32 (Option.some.inj e2)
            · exact hno.out j h1 (by omega))
          have HFF : Hid (L = out ++ Lib.split (s.drop fr) [32]) := hid (hf.out hlt)
          clear hx hx32 hkn HL0 hf hg hno
          go_wp2_with fail
          go_roundw
          case rel => exact ⟨k + 1, fr, out, by go_num, rfl, by omega, by omega, hid (by have := hol.out; omega), HNO, hid (fun _ => HFF.out), hid (fun h => by have := HKL.out; omega), how, hbw⟩
          case measure => simp [intOf]; omega
    · have d1 : decide ((k : Int) ≤ (n : Int)) = false := decide_eq_false (by omega)
      have d2 : decide (k ≤ n) = false := decide_eq_false hlt
      have hLo : L = out := hg.out (by omega)
      subst hLo
      obtain ⟨b, c, rfl, hb0, hrow⟩ := own_strs how.out HNE.out
      obtain ⟨m, hm⟩ : ∃ m, L.length = m := ⟨_, rfl⟩
      rw [hm]
      clear hf hg hno
      go_wp2_with fail
      go_ret
      exact ⟨b, c, by rw [hm]; rfl, hrow, hb0, hbw.out⟩
end Go.Proofs.YtehagnbphamjhaaGreatDoor

namespace Go.Proofs.YtehagnbphamjhaaGreatDoor
open Go.RowKit
/-! ### the document's Step, in plain words: what its loop finds -/
def kindF (w0 : Str) : Nat → Nat
  | 0 => 0
  | k + 1 => if wordR ((k + 1 : Nat) : Int) = w0 then k + 1 else kindF w0 k
def shapeZ (w0 : Str) : Shape := (shapeW w0).getD ⟨0, [], false, false⟩
theorem wordR_shape : ∀ k : Fin 13, (shapeW (wordR ((k.val + 1 : Nat) : Int))).isSome = true := by decide +kernel
theorem kindF_le (w0 : Str) : ∀ k, kindF w0 k ≤ k
  | 0 => Nat.le_refl _
  | k + 1 => by
    rw [kindF]
    split
    · exact Nat.le_refl _
    · exact Nat.le_succ_of_le (kindF_le w0 k)
theorem kindF_no {w0 : Str} (h : shapeW w0 = none) : ∀ k, k ≤ 13 → kindF w0 k = 0
  | 0, _ => rfl
  | k + 1, hk => by
    rw [kindF, if_neg, kindF_no h k (by omega)]
    intro e
    have h1 := wordR_shape ⟨k, by omega⟩
    simp only at h1
    rw [e, h] at h1
    cases h1
theorem kindF_13 (w0 : Str) : ((kindF w0 13 : Nat) : Int) = (shapeZ w0).kind := by
  rcases h : shapeW w0 with _ | x
  · rw [kindF_no h 13 (Nat.le_refl _)]; unfold shapeZ; rw [h]; rfl
  · obtain ⟨hx, e⟩ := shapeW_some h
    subst e
    clear h
    simp only [shapesP, List.mem_cons, List.not_mem_nil, or_false] at hx
    rcases hx with rfl | rfl | rfl | rfl | rfl | rfl | rfl | rfl | rfl | rfl | rfl | rfl | rfl <;> decide +kernel
theorem hasR_Z (w0 : Str) : hasR (shapeZ w0).kind = (if (shapeZ w0).two = true then [98] else []) ++ (if (shapeZ w0).bytes = true then [120] else []) := by
  unfold shapeZ
  rcases h : shapeW w0 with _ | x
  · rfl
  · obtain ⟨hx, -⟩ := shapeW_some h
    clear h
    simp only [shapesP, List.mem_cons, List.not_mem_nil, or_false] at hx
    rcases hx with rfl | rfl | rfl | rfl | rfl | rfl | rfl | rfl | rfl | rfl | rfl | rfl | rfl <;> rfl
theorem shapeZ_kind (w0 : Str) : 0 ≤ (shapeZ w0).kind ∧ (shapeZ w0).kind ≤ 13 := by
  rw [← kindF_13]
  have := kindF_le w0 13
  omega
theorem stepR_eq {s : Str} {L : List Str} {x : Shape} (hL : Lib.split s [32] = L) (hx : shapeZ (L.getD 0 []) = x) : stepR s = if L.length = 2 + numR2 x then (if lineP (readR x L) = some (s ++ [10]) then some (readR x L) else none) else none := by
  subst hx
  unfold stepR shapeZ
  rw [hL]
  rcases h : shapeW (L.getD 0 []) with _ | x
  · have e : lineP (readR ((none : Option Shape).getD ⟨0, [], false, false⟩) L) = none := by
      have e0 : shapeK (readR ((none : Option Shape).getD ⟨0, [], false, false⟩) L).kind = none := shapeK_out (.inl (show (0 : Int) < 1 by decide))
      unfold lineP
      rw [e0]
    simp only
    rw [e]
    split <;> rfl
  · simp only [Option.getD_some]
    by_cases h1 : L.length = 2 + numR2 x
    · rw [if_pos h1]
      by_cases h2 : lineP (readR x L) = some (s ++ [10])
      · rw [if_pos h2, if_pos ⟨h1, h2⟩]
      · rw [if_neg h2, if_neg (fun h => h2 h.2)]
    · rw [if_neg h1, if_neg (fun h => h1 h.1)]
theorem unhexR_drop {d : Str} {i : Nat} (h : i + 1 < d.length) : ∃ c e, d[i]? = some c ∧ d[i + 1]? = some e ∧ unhexR (d.drop i) = ((digR c * 16 + digR e) % 256) :: unhexR (d.drop (i + 2)) := by
  obtain ⟨c, e, h1, h2, h3⟩ := drop_two (s := d) (k := i) h
  exact ⟨c, e, h1, h2, by rw [h3, unhexR]⟩
theorem unhexR_end {d : Str} {i : Nat} (h : d.length ≤ i + 1) : unhexR (d.drop i) = [] := by
  have hl : (d.drop i).length ≤ 1 := by rw [List.length_drop]; omega
  match hd : d.drop i, hl with
  | [], _ => rfl
  | [_], _ => rfl
  | _ :: _ :: _, hl => simp at hl
theorem wrap8_16 (x : Nat) : IntKind.u8.wrap ((x : Int) * 16) = ((x * 16 % 256 : Nat) : Int) := by rw [IntKind.wrap_u8]; omega
theorem wrap8_add (x y : Nat) : IntKind.u8.wrap (((x * 16 % 256 : Nat) : Int) + (y : Int)) = (((x * 16 + y) % 256 : Nat) : Int) := by rw [IntKind.wrap_u8]; omega
end Go.Proofs.YtehagnbphamjhaaGreatDoor

namespace Go.Proofs.YtehagnbphamjhaaGreatDoor
open Go.RowKit

/-! ### cmd.Put, where the command may be -/
theorem CmdBox.mutT {w w' : World} {b s : Nat} {c : CmdD} {da am al ad : Option Addr} {dc cm cl cd : Nat} (h : CmdBox w b c da am al ad dc cm cl cd) (hm : Mut (fun k => k = s) w w') (hb : b ≠ s) : CmdBox w' b c da am al ad dc cm cl cd :=
  ⟨cell_mut h.c0 hm hb, cell_mut h.c1 hm hb, cell_mut h.c2 hm hb, cell_mut h.c3 hm hb, cell_mut h.c4 hm hb, cell_mut h.c5 hm hb, cell_mut h.c6 hm hb, cell_mut h.c7 hm hb, cell_mut h.c8 hm hb, cell_mut h.c9 hm hb⟩
theorem ByteRow.far {w : World} {a : Option Addr} {l : List Nat} (h : ByteRow w a l) {s : Nat} (hs : w.heap.size ≤ s) : ∀ b off, a = some ⟨b, off, none⟩ → l ≠ [] → b ≠ s := by
  rintro b off rfl hl
  rcases h with rfl | ⟨b', off', e, hlt, -⟩
  · exact absurd rfl hl
  · cases e; omega
end Go.Proofs.YtehagnbphamjhaaGreatDoor

namespace Go.Proofs.YtehagnbphamjhaaGreatDoor
open Go.RowKit

/-! ### commands: awake -/
theorem OwnB.mutT {G : Nat → Prop} {w w' : World} {base : Nat} {v : Value} {xs : List Nat} (h : OwnB w base v xs) (hm : Mut G w w') (hG : ∀ k, G k → k < base) : OwnB w' base v xs := by
  refine ⟨h.1, ?_⟩
  rcases h.2 with hn | ⟨g, cap, cur, rfl, hbb, hgg, rest⟩
  · exact .inl hn
  · exact .inr ⟨g, cap, cur, rfl, hbb, (hm.block g (Array.getElem?_eq_some_iff.1 hgg).1 (fun hg => by have := hG g hg; omega)).trans hgg, rest⟩
/-- a writer stays where another one writes -/
theorem WrIs.mutT {w w' : World} {s t base : Nat} {v : Value} {bs : List Nat} (h : WrIs w s v bs) (hm : Mut (fun k => k = t) w w') (hst : s ≠ t) (hown : OwnB w base v bs) (hb : s + 1 ≤ base) (ht : t < base) : WrIs w' s v bs :=
  ⟨cell_mut h.c hm hst, (World.frozen?_of_block (w := w) (a := ⟨s, 0, none⟩) (hm.block s h.lt hst)).trans h.f, (hown.mutT hm (fun _k e => e ▸ ht)).mono hb⟩
end Go.Proofs.YtehagnbphamjhaaGreatDoor

namespace Go.Proofs.YtehagnbphamjhaaGreatDoor
open Go.RowKit
/-! ### the dice of both sides -/
/-! ### bytes of the dice -/
theorem OwnB.blkD {w : World} {base : Nat} {v : Value} {bs : List Nat} (h : OwnB w base v bs) {g : Nat} (hg : v.ownBlock = some g) : base ≤ g ∧ g < w.heap.size := World.ownsRow.lt h g hg
theorem grown_mutD {w w' : World} {v : Value} (h3 : w.grownBy w' v.ownBlock) : Mut (fun q => v.ownBlock = some q) w w' :=
  ⟨h3.os, h3.tape, h3.output, h3.size, fun q hq hf => h3.block q hq fun e => hf e.symm⟩
end Go.Proofs.YtehagnbphamjhaaGreatDoor

namespace Go.Proofs.YtehagnbphamjhaaGreatDoor
open Go.RowKit
/-! ### play: a storm's step -/
theorem BoxL.range {w : World} {b : Nat} {t : TypeId} {cs : List Value} (h : BoxL w b t cs) : w.rangeAt b 0 cs := fun j v hj => by rw [Nat.zero_add]; exact h.cell hj
theorem OwnB.mutD {G : Nat → Prop} {w w' : World} {base : Nat} {v : Value} {xs : List Nat} (h : OwnB w base v xs) (hm : Mut G w w') (hG : ∀ g, v.ownBlock = some g → ¬ G g) : OwnB w' base v xs := by
  refine ⟨h.1, ?_⟩
  rcases h.2 with hn | ⟨g, cap, cur, rfl, hbb, hgg, rest⟩
  · exact .inl hn
  · exact .inr ⟨g, cap, cur, rfl, hbb, (hm.block g (Array.getElem?_eq_some_iff.1 hgg).1 (hG g rfl)).trans hgg, rest⟩
end Go.Proofs.YtehagnbphamjhaaGreatDoor

namespace Go.Proofs.YtehagnbphamjhaaGreatDoor
open Go.RowKit
/-! ### the document's storm: its step by kinds -/
def aL : List Nat := [0, 8, 64, 64, 64, 64, 8, 8, 8, 8, 4, 8, 8, 0]
end Go.Proofs.YtehagnbphamjhaaGreatDoor

namespace Go.Proofs.YtehagnbphamjhaaGreatDoor
open Go.RowKit
/-! ### the document's storm: its walk -/
theorem step_appendBz {w : World} {o : Oper} {a : Go.Act} {K : Go.Act → World → Prop} {Q : Exit → Go.Act → World → Prop} {y : Nat → Option Bool} {s x : Operand} {base : Nat} {v : Value} {xs ys : List Nat} {ad : Option Addr} {c n : Nat} (hw : Region.wanted o y = true) (hown : OwnB w base v xs) (hy : ByteRow w ad ys) (hn : Hid (ys.length = n)) (hlen : xs.length + n ≤ 1099511627776) (hbase : base ≤ w.heap.size)
    (ho : o.op = .call { callee := .builtin .append, args := #[s, x], argTypes := #[55, 55] }) (hs : a.eval s = v) (hx : a.eval x = .slice ad n c)
    (h : ∀ v' w', OwnB w' base v' (xs ++ ys) → w.grownBy w' v.ownBlock → K (a.put o.dst v') w') : if Region.wanted o y = true then Oper.wp Tryz.prog o a w K Q else K (a.put o.dst undef) w := by
  have hn := hn.out; subst hn
  rw [if_pos hw]
  obtain ⟨v', w', hr, h2, h3, -⟩ := run_appendB hown (c := c) hy hlen hbase o.type
  exact Lib.wp_append_run w s x 55 55 ho _ _ hs hx v' w' hr (h v' w' h2 h3)
end Go.Proofs.YtehagnbphamjhaaGreatDoor

namespace Go.Proofs.YtehagnbphamjhaaGreatDoor
open Go.RowKit
/-! ### the document's Step: its walk -/
theorem kindF_next {w0 : Str} {k : Nat} (h : 1 ≤ k) : kindF w0 k = if wordR (k : Int) = w0 then k else kindF w0 (k - 1) := by
  obtain ⟨j, rfl⟩ : ∃ j, k = j + 1 := ⟨k - 1, by omega⟩
  rfl
set_option maxRecDepth 100000 in
set_option maxHeartbeats 12800000 in
theorem refStep_any {s : Str} {w : World} (hs : s.length ≤ 900000) :
    Calls Tryz.prog 35 #[.string ⟨s.toArray⟩] w fun e w' => StepRes w.heap.size w' e (stepR s) ∧ Below w.heap.size w w' := by
  obtain ⟨r, hr⟩ : ∃ r, stepR s = r := ⟨_, rfl⟩
  rw [hr]
  obtain ⟨L, hL⟩ : ∃ L, Lib.split s [32] = L := ⟨_, rfl⟩
  obtain ⟨w0, rest, hsp⟩ := split_ne s 32
  obtain ⟨hl1, hl2⟩ := split_lens (c := 32) s.length (s := s) (Nat.le_refl _)
  have hL0 : L[0]? = some w0 := by rw [← hL, hsp]; rfl
  have hgd : L.getD 0 [] = w0 := by rw [← hL, hsp]; rfl
  have HK := hid (kindF_13 w0)
  have HH := hid (hasR_Z w0)
  have HXK := hid (shapeZ_kind w0)
  have hr2 := stepR_eq hL (congrArg shapeZ hgd)
  obtain ⟨x, hx⟩ : ∃ x, shapeZ w0 = x := ⟨_, rfl⟩
  rw [hx] at HK HH HXK hr2
  rw [hr] at hr2
  rw [hL] at hl1 hl2
  obtain ⟨n, hn⟩ : ∃ n, L.length = n := ⟨_, rfl⟩
  obtain ⟨W1, hW1⟩ : ∃ W1, w.alloc (.cells #[.int .i64 0, .int .i64 0, .int .i64 0, .slice none 0 0] 62) = W1 := ⟨_, rfl⟩
  have hb1 : Below w.heap.size w W1 := by rw [← hW1]; exact (Below.refl _ _).alloc (Nat.le_refl _) _
  have hx1 : Bx4 W1 w.heap.size (.int .i64 0) (.int .i64 0) (.int .i64 0) (.slice none 0 0) := by rw [← hW1]; exact Bx4.made _ _ _ _ _ _
  have C1 := refParts_any (s := s) (w := W1) (by omega)
  rw [hL, hn] at C1
  have C1 := hid C1
  have HR := hid hr2
  have HL0 := hid hL0
  have HN := hid hn
  have hn0 : 0 < n := by rw [← hn]; exact (List.getElem?_eq_some_iff.1 hL0).1
  have HLE := hid hl1
  have HNL : Hid (n ≤ 900001) := hid (by rw [hn] at hl2; omega)
  have HS := hid hs
  have HB1 := hid hb1
  have HX1 := hid hx1
  have HG1 : Hid (w.heap.size < W1.heap.size) := hid hx1.lt
  clear hr hL hsp hl1 hl2 hL0 hgd hr2 hx hn hs hb1 hx1
  go_enter Tryz.func35, Tryz.ntmps35
  go_wp2_with fail
  refine C1.out.mono ?_
  rintro e w2 ⟨pb, pc, rfl, hrow, hpb, hb2⟩
  obtain ⟨W3, hW3⟩ : ∃ W3, w2.alloc (.cells #[.int .i64 0, .int .i64 0, .int .i64 0, .slice none 0 0] 62) = W3 := ⟨_, rfl⟩
  have hb3 : Below w2.heap.size w2 W3 := by rw [← hW3]; exact (Below.refl _ _).alloc (Nat.le_refl _) _
  have hx3 : Bx4 W3 w2.heap.size (.int .i64 0) (.int .i64 0) (.int .i64 0) (.slice none 0 0) := by rw [← hW3]; exact Bx4.made _ _ _ _ _ _
  obtain ⟨sb, hsb⟩ : ∃ z, w2.heap.size = z := ⟨_, rfl⟩
  have hb23 : Below W1.heap.size W1 W3 := hb2.trans (hb3.mono hb2.size)
  have HB3 := hid (HB1.out.trans (hb23.mono HB1.out.size))
  have HX3 := hid (HX1.out.ext hb23)
  have HP3 := hid (hrow.ext hb3 hrow.1)
  have hg1 := hrow.1
  have hz12 := hb2.size
  rw [hsb] at hx3 hg1 hz12
  have HS3 := hid hx3
  have HG3 : Hid (w.heap.size < pb ∧ pb < sb ∧ sb < W3.heap.size) := hid ⟨by have := HG1.out; omega, hg1, hx3.lt⟩
  have HSB := hid hsb
  have HW3 := hid hW3
  clear hW3 hb3 hx3 hb23 hrow hpb hb2 C1 hW1 HX1 HB1 hg1 hz12 hsb
  go_upto_region 3 with fail
  rw [HW3.out]
  try rw [HSB.out]
  have HC : Hid (∀ W, Mut (fun q => q = sb ∨ W3.heap.size ≤ q) W3 W → W.cell? ⟨pb, 0, none⟩ = some (.string ⟨w0.toArray⟩)) := hid fun W h => (h.cell (p := ⟨pb, 0, none⟩) (by have := HG3.out; simp only; omega) (by have := HG3.out; simp only; omega)).trans (HP3.out.get HL0.out)
  go_wp2_with fail
  go_loopw [6] (fun iv wr => ∃ k : Nat, 1 ≤ k ∧ k ≤ 14 ∧ iv = .int .i64 k ∧ Hid (Bx4 wr sb (.int .i64 (kindF w0 (k - 1) : Nat)) (.int .i64 0) (.int .i64 0) (.slice none 0 0)) ∧ Hid (Mut (fun q => q = sb ∨ W3.heap.size ≤ q) W3 wr)) (fun iv _ => 14 - (intOf iv).toNat)
  case atStart => exact ⟨1, Nat.le_refl _, by omega, rfl, HS3, hid (Mut.refl _ _)⟩
  case round =>
    obtain ⟨k, hk1, hk, rfl, hbx, hmu⟩ := hrel
    by_cases hlt : k ≤ 13
    · have d1 : decide ((k : Int) ≤ 13) = true := decide_eq_true (by omega)
      have d2 : decide (k ≤ 13) = true := decide_eq_true hlt
      have CW := hid (refWord_any (k : Int) wr)
      obtain ⟨wd, hwd⟩ : ∃ wd, wordR (k : Int) = wd := ⟨_, rfl⟩
      rw [hwd] at CW
      have HWD := hid hwd
      clear hwd
      go_wp2_with fail
      refine CW.out.mono ?_
      rintro e w4 ⟨rfl, hb4⟩
      have HM4 : Hid (Mut (fun q => q = sb ∨ W3.heap.size ≤ q) W3 w4) := hid (hmu.out.trans ((Mut.of_below (F := fun q => wr.heap.size ≤ q) hb4).mono fun q _ e => .inr (Nat.le_trans hmu.out.size e)))
      have HB4 := hid (hbx.out.ext hb4)
      have p0 := HC.out w4 HM4.out
      have z0 := HB4.out.c0
      have zf := HB4.out.f
      clear hb4 CW
      by_cases hw : wd = w0
      · have g : (@BEq.beq (List UInt8) List.instBEq wd w0) = true := by simp [hw]
        have HKN : Hid (kindF w0 k = k) := hid (by rw [kindF_next hk1, HWD.out, if_pos hw])
        have HS5 := hid (HB4.out.set0 (.int .i64 (k : Int)))
        have HM5 := hid (mut_set HM4.out sb 0 (.int .i64 (k : Int)) (.inl rfl))
        clear hw
        go_wp2_with fail
        go_roundw
        case rel => exact ⟨k + 1, by omega, by omega, by go_num, hid (by rw [Nat.add_sub_cancel, HKN.out]; exact HS5.out), HM5⟩
        case measure => simp [intOf]; omega
      · have g : (@BEq.beq (List UInt8) List.instBEq wd w0) = false := by simpa using hw
        have HKN : Hid (kindF w0 k = kindF w0 (k - 1)) := hid (by rw [kindF_next hk1, HWD.out, if_neg hw])
        clear hw
        go_wp2_with fail
        go_roundw
        case rel => exact ⟨k + 1, by omega, by omega, by go_num, hid (by rw [Nat.add_sub_cancel, HKN.out]; exact HB4.out), HM4⟩
        case measure => simp [intOf]; omega
    · obtain rfl : k = 14 := by omega
      obtain ⟨xk, word, two, bytes⟩ := x
      simp only at HK HH HXK
      have HX6 : Hid (Bx4 wr sb (.int .i64 xk) (.int .i64 0) (.int .i64 0) (.slice none 0 0)) := hid (by have h := hbx.out; rw [show 14 - 1 = 13 from rfl, HK.out] at h; exact h)
      have HPC : Hid (∀ W j t, Mut (fun q => q = sb ∨ W3.heap.size ≤ q) W3 W → L[j]? = some t → W.cell? ⟨pb, j, none⟩ = some (.string ⟨t.toArray⟩)) := hid fun W j t h ht => (h.cell (p := ⟨pb, j, none⟩) (by have := HG3.out; simp only; omega) (by have := HG3.out; simp only; omega)).trans (HP3.out.get ht)
      have CW := refWord_any xk wr
      rw [HH.out] at CW
      obtain ⟨wd, hwd⟩ : ∃ wd, wordR xk = wd := ⟨_, rfl⟩
      rw [hwd] at CW
      clear hwd HC
      cases two <;> cases bytes
      · have CWH : Hid (Calls Tryz.prog 59 #[.int .i64 xk] wr fun e w' => e = .returned (.tuple #[.string ⟨wd.toArray⟩, .string ⟨([] : List UInt8).toArray⟩]) ∧ Below wr.heap.size wr w') := hid CW
        have HR : Hid (r = if L.length = 2 then (if lineP (readR ⟨xk, word, false, false⟩ L) = some (s ++ [10]) then some (readR ⟨xk, word, false, false⟩ L) else none) else none) := hid HR.out
        clear HH HK hbx CW
        have z0 := HX6.out.c0
        go_wp2_with fail
        refine CWH.out.mono ?_
        rintro e w4 ⟨rfl, hb4⟩
        have HM4 : Hid (Mut (fun q => q = sb ∨ W3.heap.size ≤ q) W3 w4) := hid (hmu.out.trans ((Mut.of_below (F := fun q => wr.heap.size ≤ q) hb4).mono fun q _ e => .inr (Nat.le_trans hmu.out.size e)))
        have HX4 := hid (HX6.out.ext hb4)
        clear hb4 CWH hmu HX6 z0
        by_cases hlen : n = 2
        · subst hlen
          have HRR : Hid (r = if lineP (readR ⟨xk, word, false, false⟩ L) = some (s ++ [10]) then some (readR ⟨xk, word, false, false⟩ L) else none) := hid (by rw [HR.out, if_pos HN.out])
          clear HR
          obtain ⟨t1, ht1⟩ : ∃ t, L[1]? = some t := ⟨L[1]'(by rw [HN.out]; decide), List.getElem?_eq_getElem _⟩
          have CV := hid (refValue_any (s := t1) (w := w4) (by have := HLE.out t1 (List.mem_of_getElem? ht1); have := HS.out; omega))
          obtain ⟨v1, hv1⟩ : ∃ v, valR t1 = v := ⟨_, rfl⟩
          rw [hv1] at CV
          have HV1 : Hid (valR (L.getD 1 []) = v1) := hid (by rw [List.getD_eq_getElem?_getD, ht1]; exact hv1)
          have p1 := HPC.out w4 1 t1 HM4.out ht1
          clear hv1 ht1
          go_wp2_with fail
          refine CV.out.mono ?_
          rintro e w5 ⟨rfl, hb5⟩
          clear CV p1
          have HM5 : Hid (Mut (fun q => q = sb ∨ W3.heap.size ≤ q) W3 w5) := hid (HM4.out.trans ((Mut.of_below (F := fun q => w4.heap.size ≤ q) hb5).mono fun q _ e => .inr (Nat.le_trans HM4.out.size e)))
          have HX5 := hid (HX4.out.ext hb5)
          clear hb5 HM4 HX4
          have z1 := HX5.out.c1
          have zf := HX5.out.f
          go_upto_region 13 with fail
          have HX6 := hid (HX5.out.set1 (.int .i64 v1))
          have HM6 := hid (mut_set HM5.out sb 1 (.int .i64 v1) (.inl rfl))
          obtain ⟨w6, hw6⟩ : ∃ z, w5.setCell ⟨sb, 1, none⟩ (.int .i64 v1) = z := ⟨_, rfl⟩
          rw [hw6] at HX6 HM6
          rw [hw6]
          clear hw6 z1 zf HX5 HM5
          have HEX : Hid (readR ⟨xk, word, false, false⟩ L = ⟨xk, v1, 0, []⟩) := hid (by
            show (⟨xk, valR (L.getD 1 []), 0, []⟩ : StepD) = _
            rw [HV1.out])
          have HRX : Hid (r = if lineP ⟨xk, v1, 0, []⟩ = some (s ++ [10]) then some ⟨xk, v1, 0, []⟩ else none) := hid (by rw [HRR.out, HEX.out])
          have HOKX : Hid (StepOk ⟨xk, v1, 0, []⟩) := hid (by rw [← HEX.out]; exact readR_ok _ _)
          have CL := refLine_any (s := ⟨xk, v1, 0, []⟩) (a := none) (c := 0) (n := 0) (w := w6) ⟨by have := HXK.out; exact ⟨by simp only; omega, by simp only; omega⟩, HOKX.out, .inl rfl⟩ (hid rfl) (by first | omega | (have := HQJ.out; omega))
          obtain ⟨lp, hlp⟩ : ∃ lp, lineP ⟨xk, v1, 0, []⟩ = lp := ⟨_, rfl⟩
          rw [hlp] at HRX CL
          have HLP := hid hlp
          clear hlp HRR HEX
          have y0 := HX6.out.c0
          have y1 := HX6.out.c1
          have y2 := HX6.out.c2
          have y3 := HX6.out.c3
          rcases lp with _ | t
          · have HRN : Hid (r = none) := hid (by rw [HRX.out, if_neg (by simp)])
            have CLH : Hid (Calls Tryz.prog 62 #[.agg #[.int .i64 xk, .int .i64 v1, .int .i64 0, .slice none 0 0]] w6 fun e w' => e = .returned (.tuple #[.string ⟨#[]⟩, .bool false]) ∧ Below w6.heap.size w6 w') := hid CL
            clear CL
            go_wp2_with fail
            refine CLH.out.mono ?_
            rintro e w7 ⟨rfl, hb7⟩
            clear CLH
            have HM7 : Hid (Mut (fun q => q = sb ∨ W3.heap.size ≤ q) W3 w7) := hid (HM6.out.trans ((Mut.of_below (F := fun q => w6.heap.size ≤ q) hb7).mono fun q _ e => .inr (Nat.le_trans HM6.out.size e)))
            have HX7 := hid (HX6.out.ext hb7)
            clear hb7 HM6 HX6
            clear y0 y1 y2 y3 HRX HLP
            have HB0 : Hid (Below w.heap.size w w7) := hid (HB3.out.trans (HM7.out.below (B := w.heap.size) (by have := HB3.out.size; omega) fun q e => by have := HG3.out; have := HB3.out.size; rcases e with e | e <;> omega))
            have HX0 := hid (HX3.out.mut HM7.out (fun e => by have := HG3.out; rcases e with e | e <;> omega))
            have z0 := HX0.out.c0
            have z1 := HX0.out.c1
            have z2 := HX0.out.c2
            have z3 := HX0.out.c3
            have zf := HX0.out.f
            go_wp2_with fail
            refine bodyPost_ret (v := .tuple #[.agg ([.int .i64 0, .int .i64 0, .int .i64 0, .slice none 0 0] : List Value).toArray, .bool false]) (results_cell_tmp (p := 2) (q := 3) (ty := 62) rfl _ _ w.heap.size [.int .i64 0, .int .i64 0, .int .i64 0, .slice none 0 0] _ rfl (HX0.out.all _ _ _ _).range Tryz.underlying62 rfl (infoStepL _ _ _ _)) rfl ⟨by rw [HRN.out]; rfl, below_all HB0.out (Nat.le_refl _) _ _ _ _⟩
          · by_cases heq : t = s ++ [10]
            · have HRS : Hid (r = some ⟨xk, v1, 0, []⟩) := hid (by rw [HRX.out, heq, if_pos rfl])
              have u1 : (t != s ++ [10]) = false := by simp [heq]
              have u2 : (t == s ++ [10]) = true := by simp [heq]
              have acat := run_cat s [10] (by have := HS.out; omega) (by simp)
              clear heq HRX HLP
              have CLH : Hid (Calls Tryz.prog 62 #[.agg #[.int .i64 xk, .int .i64 v1, .int .i64 0, .slice none 0 0]] w6 fun e w' => e = .returned (.tuple #[.string ⟨t.toArray⟩, .bool true]) ∧ Below w6.heap.size w6 w') := hid CL
              clear CL
              go_wp2_with fail
              refine CLH.out.mono ?_
              rintro e w7 ⟨rfl, hb7⟩
              clear CLH
              have HM7 : Hid (Mut (fun q => q = sb ∨ W3.heap.size ≤ q) W3 w7) := hid (HM6.out.trans ((Mut.of_below (F := fun q => w6.heap.size ≤ q) hb7).mono fun q _ e => .inr (Nat.le_trans HM6.out.size e)))
              have HX7 := hid (HX6.out.ext hb7)
              clear hb7 HM6 HX6
              clear y0 y1 y2 y3
              have HB0 : Hid (Below w.heap.size w w7) := hid (HB3.out.trans (HM7.out.below (B := w.heap.size) (by have := HB3.out.size; omega) fun q e => by have := HG3.out; have := HB3.out.size; rcases e with e | e <;> omega))
              have HX0 := hid (HX3.out.mut HM7.out (fun e => by have := HG3.out; rcases e with e | e <;> omega))
              have z0 := HX0.out.c0
              have z1 := HX0.out.c1
              have z2 := HX0.out.c2
              have z3 := HX0.out.c3
              have zf := HX0.out.f
              have y0 := HX7.out.c0
              have y1 := HX7.out.c1
              have y2 := HX7.out.c2
              have y3 := HX7.out.c3
              go_wp2_with fail
              refine bodyPost_ret (v := .tuple #[.agg ([.int .i64 xk, .int .i64 v1, .int .i64 0, .slice none 0 0] : List Value).toArray, .bool true]) (results_cell_tmp (p := 2) (q := 3) (ty := 62) rfl _ _ w.heap.size [.int .i64 xk, .int .i64 v1, .int .i64 0, .slice none 0 0] _ rfl (HX0.out.all _ _ _ _).range Tryz.underlying62 rfl (infoStepL _ _ _ _)) rfl ⟨?_, below_all HB0.out (Nat.le_refl _) _ _ _ _⟩
              rw [HRS.out]
              exact ⟨none, 0, rfl, .inl rfl, fun b off e => by cases e⟩
            · have HRN : Hid (r = none) := hid (by rw [HRX.out, if_neg (fun h => heq (Option.some.inj h))])
              have u1 : (t != s ++ [10]) = true := by simpa using heq
              have u2 : (t == s ++ [10]) = false := by simpa using heq
              have acat := run_cat s [10] (by have := HS.out; omega) (by simp)
              clear heq HRX HLP
              have CLH : Hid (Calls Tryz.prog 62 #[.agg #[.int .i64 xk, .int .i64 v1, .int .i64 0, .slice none 0 0]] w6 fun e w' => e = .returned (.tuple #[.string ⟨t.toArray⟩, .bool true]) ∧ Below w6.heap.size w6 w') := hid CL
              clear CL
              go_wp2_with fail
              refine CLH.out.mono ?_
              rintro e w7 ⟨rfl, hb7⟩
              clear CLH
              have HM7 : Hid (Mut (fun q => q = sb ∨ W3.heap.size ≤ q) W3 w7) := hid (HM6.out.trans ((Mut.of_below (F := fun q => w6.heap.size ≤ q) hb7).mono fun q _ e => .inr (Nat.le_trans HM6.out.size e)))
              have HX7 := hid (HX6.out.ext hb7)
              clear hb7 HM6 HX6
              clear y0 y1 y2 y3
              have HB0 : Hid (Below w.heap.size w w7) := hid (HB3.out.trans (HM7.out.below (B := w.heap.size) (by have := HB3.out.size; omega) fun q e => by have := HG3.out; have := HB3.out.size; rcases e with e | e <;> omega))
              have HX0 := hid (HX3.out.mut HM7.out (fun e => by have := HG3.out; rcases e with e | e <;> omega))
              have z0 := HX0.out.c0
              have z1 := HX0.out.c1
              have z2 := HX0.out.c2
              have z3 := HX0.out.c3
              have zf := HX0.out.f
              go_wp2_with fail
              refine bodyPost_ret (v := .tuple #[.agg ([.int .i64 0, .int .i64 0, .int .i64 0, .slice none 0 0] : List Value).toArray, .bool false]) (results_cell_tmp (p := 2) (q := 3) (ty := 62) rfl _ _ w.heap.size [.int .i64 0, .int .i64 0, .int .i64 0, .slice none 0 0] _ rfl (HX0.out.all _ _ _ _).range Tryz.underlying62 rfl (infoStepL _ _ _ _)) rfl ⟨by rw [HRN.out]; rfl, below_all HB0.out (Nat.le_refl _) _ _ _ _⟩
        · have HRN : Hid (r = none) := hid (by rw [HR.out, if_neg (fun e => hlen (by rw [← HN.out]; exact e))])
          have g1 : ((n : Int) != 2) = true := by rw [bne_iff_ne]; omega
          have g2 : (n != 2) = true := by rw [bne_iff_ne]; exact hlen
          have g3 : ((n : Int) == 2) = false := by rw [beq_eq_false_iff_ne]; omega
          clear HR hlen
          have HB0 : Hid (Below w.heap.size w w4) := hid (HB3.out.trans (HM4.out.below (B := w.heap.size) (by have := HB3.out.size; omega) fun q e => by have := HG3.out; have := HB3.out.size; rcases e with e | e <;> omega))
          have HX0 := hid (HX3.out.mut HM4.out (fun e => by have := HG3.out; rcases e with e | e <;> omega))
          have z0 := HX0.out.c0
          have z1 := HX0.out.c1
          have z2 := HX0.out.c2
          have z3 := HX0.out.c3
          have zf := HX0.out.f
          go_wp2_with fail
          refine bodyPost_ret (v := .tuple #[.agg ([.int .i64 0, .int .i64 0, .int .i64 0, .slice none 0 0] : List Value).toArray, .bool false]) (results_cell_tmp (p := 2) (q := 3) (ty := 62) rfl _ _ w.heap.size [.int .i64 0, .int .i64 0, .int .i64 0, .slice none 0 0] _ rfl (HX0.out.all _ _ _ _).range Tryz.underlying62 rfl (infoStepL _ _ _ _)) rfl ⟨by rw [HRN.out]; rfl, below_all HB0.out (Nat.le_refl _) _ _ _ _⟩
      · have CWH : Hid (Calls Tryz.prog 59 #[.int .i64 xk] wr fun e w' => e = .returned (.tuple #[.string ⟨wd.toArray⟩, .string ⟨([120] : List UInt8).toArray⟩]) ∧ Below wr.heap.size wr w') := hid CW
        have HR : Hid (r = if L.length = 3 then (if lineP (readR ⟨xk, word, false, true⟩ L) = some (s ++ [10]) then some (readR ⟨xk, word, false, true⟩ L) else none) else none) := hid HR.out
        clear HH HK hbx CW
        have z0 := HX6.out.c0
        go_wp2_with fail
        refine CWH.out.mono ?_
        rintro e w4 ⟨rfl, hb4⟩
        have HM4 : Hid (Mut (fun q => q = sb ∨ W3.heap.size ≤ q) W3 w4) := hid (hmu.out.trans ((Mut.of_below (F := fun q => wr.heap.size ≤ q) hb4).mono fun q _ e => .inr (Nat.le_trans hmu.out.size e)))
        have HX4 := hid (HX6.out.ext hb4)
        clear hb4 CWH hmu HX6 z0
        by_cases hlen : n = 3
        · subst hlen
          have HRR : Hid (r = if lineP (readR ⟨xk, word, false, true⟩ L) = some (s ++ [10]) then some (readR ⟨xk, word, false, true⟩ L) else none) := hid (by rw [HR.out, if_pos HN.out])
          clear HR
          obtain ⟨t1, ht1⟩ : ∃ t, L[1]? = some t := ⟨L[1]'(by rw [HN.out]; decide), List.getElem?_eq_getElem _⟩
          have CV := hid (refValue_any (s := t1) (w := w4) (by have := HLE.out t1 (List.mem_of_getElem? ht1); have := HS.out; omega))
          obtain ⟨v1, hv1⟩ : ∃ v, valR t1 = v := ⟨_, rfl⟩
          rw [hv1] at CV
          have HV1 : Hid (valR (L.getD 1 []) = v1) := hid (by rw [List.getD_eq_getElem?_getD, ht1]; exact hv1)
          have p1 := HPC.out w4 1 t1 HM4.out ht1
          clear hv1 ht1
          go_wp2_with fail
          refine CV.out.mono ?_
          rintro e w5 ⟨rfl, hb5⟩
          clear CV p1
          have HM5 : Hid (Mut (fun q => q = sb ∨ W3.heap.size ≤ q) W3 w5) := hid (HM4.out.trans ((Mut.of_below (F := fun q => w4.heap.size ≤ q) hb5).mono fun q _ e => .inr (Nat.le_trans HM4.out.size e)))
          have HX5 := hid (HX4.out.ext hb5)
          clear hb5 HM4 HX4
          have z1 := HX5.out.c1
          have zf := HX5.out.f
          go_upto_region 13 with fail
          have HX6 := hid (HX5.out.set1 (.int .i64 v1))
          have HM6 := hid (mut_set HM5.out sb 1 (.int .i64 v1) (.inl rfl))
          obtain ⟨w6, hw6⟩ : ∃ z, w5.setCell ⟨sb, 1, none⟩ (.int .i64 v1) = z := ⟨_, rfl⟩
          rw [hw6] at HX6 HM6
          rw [hw6]
          clear hw6 z1 zf HX5 HM5
          obtain ⟨d, hd⟩ : ∃ t, L[2]? = some t := ⟨L[2]'(by rw [HN.out]; decide), List.getElem?_eq_getElem _⟩
          obtain ⟨dl, hdl⟩ : ∃ z, d.length = z := ⟨_, rfl⟩
          have hzd : (⟨d.toArray⟩ : ByteArray).size = dl := by rw [bszP, hdl]
          have HDE : Hid (unhexR ((L.getD (L.length - 1) []).drop 1) = unhexR (d.drop 1)) := hid (by rw [HN.out, show 3 - 1 = 2 from rfl, List.getD_eq_getElem?_getD, hd]; rfl)
          have hdb : dl ≤ 900000 := by have := HLE.out d (List.mem_of_getElem? hd); have := HS.out; omega
          have pd := HPC.out w6 2 d HM6.out hd
          have HDL := hid hdl
          have HSBA : Hid (sb < w6.heap.size ∧ W3.heap.size ≤ w6.heap.size) := hid ⟨HX6.out.lt, HM6.out.size⟩
          clear hd hdl
          go_upto_region 17 with fail
          clear pd
          go_wp2_with fail
          go_loopw [12] (fun i wz => ∃ (j q : Nat) (da : Option Addr) (dc : Nat) (ds : List Nat), i = .int .i64 j ∧ 1 ≤ j ∧ j ≤ dl + 1 ∧ Hid (2 * q + 1 = j) ∧ Hid (ds.length = q) ∧ Hid (unhexR (d.drop 1) = ds ++ unhexR (d.drop j)) ∧ Hid (Bx4 wz sb (.int .i64 xk) (.int .i64 v1) (.int .i64 0) (.slice da q dc)) ∧ Hid (OwnB wz w6.heap.size (.slice da q dc) ds) ∧ Hid (Mut (fun q => q = sb ∨ W3.heap.size ≤ q) W3 wz) ∧ Hid (w6.heap.size ≤ wz.heap.size)) (fun i _ => dl + 1 - (intOf i).toNat)
          case atStart => exact ⟨1, 0, none, 0, [], rfl, Nat.le_refl _, by omega, hid rfl, hid rfl, hid rfl, HX6, hid (OwnB.nil _ _), HM6, hid (Nat.le_refl _)⟩
          case round =>
            obtain ⟨j, q, da, dc, ds, rfl, hj1, hj, HQJ, HQL, HUN, HXj, HOj, HMj, HSj⟩ := hrel
            rename World => wz
            by_cases hjl : j + 1 < dl
            · obtain ⟨c1, c2, hc1, hc2, hun⟩ := unhexR_drop (d := d) (i := j) (by rw [HDL.out]; exact hjl)
              have UI1 := fun W => str_at hc1 W
              have UI2 := fun W => str_at hc2 W
              rw [show ((j + 1 : Nat) : Int) = (j : Int) + 1 by omega] at UI2
              obtain ⟨x1, hx1⟩ : ∃ x, c1.toNat = x := ⟨_, rfl⟩
              obtain ⟨x2, hx2⟩ : ∃ x, c2.toNat = x := ⟨_, rfl⟩
              rw [digR_n, digR_n, hx1, hx2] at hun
              have hl1 : x1 < 256 := by rw [← hx1]; exact UInt8.toNat_lt c1
              have hl2 : x2 < 256 := by rw [← hx2]; exact UInt8.toNat_lt c2
              rw [hx1] at UI1
              rw [hx2] at UI2
              have CD1 := fun W => refDigit_any x1 hl1 W
              have CD2 := fun W => refDigit_any x2 hl2 W
              obtain ⟨n1, hn1⟩ : ∃ g, digN x1 = g := ⟨_, rfl⟩
              obtain ⟨n2, hn2⟩ : ∃ g, digN x2 = g := ⟨_, rfl⟩
              have e1 := wrap8_16 n1
              have e2 := wrap8_add n1 n2
              rw [hn1] at CD1 hun
              rw [hn2] at CD2 hun
              obtain ⟨M1, hM1⟩ : ∃ g, n1 * 16 % 256 = g := ⟨_, rfl⟩
              obtain ⟨z, hz⟩ : ∃ g, (n1 * 16 + n2) % 256 = g := ⟨_, rfl⟩
              rw [hM1] at e1 e2
              rw [hz] at e2 hun
              have HUJ := hid hun
              have CD1 := hid CD1
              have CD2 := hid CD2
              have e0 : IntKind.i64.wrap ((j : Int) + 1) = (j : Int) + 1 := by rw [IntKind.wrap_i64]; omega
              have d1 : decide ((j : Int) + 1 < (dl : Int)) = true := decide_eq_true (by omega)
              have d2 : decide (j + 1 < dl) = true := decide_eq_true hjl
              have s3 : wz.drew.cell? ⟨sb, 3, none⟩ = some (.slice da q dc) := (HXj.out.ext (Below.refl _ _).drew).c3
              clear hc1 hc2 hun hx1 hx2 hn1 hn2 hM1 hz hl1 hl2
              go_upto_region 20 with fail
              refine wp_region_held_drew (S := fun _ => True) (by kernel_rfl) (trivial) (fun hHeld => ?_)
              refine wpAnyH_take (i := 0) (oi := _) (v := .pointer (some ⟨sb, 3, none⟩)) rfl (by kernel_rfl) (by kernel_rfl) (by kernel_rfl) (fun _ _ _ h => h) (Or.inl ⟨by rfl, ?_⟩) (by assumption) ?_
              · intro W hSw
                try dsimp only at hSw
                go_simp
              try simp only [Act.put, List.getElem_toArray, List.getElem_cons_succ, List.getElem_cons_zero, List.setIfInBounds_toArray, List.set_cons_zero, List.set_cons_succ]
              refine wpAnyH_take (i := 2) (oi := _) (v := .string ⟨d.toArray⟩) rfl (by kernel_rfl) (by kernel_rfl) (by kernel_rfl) (fun _ _ _ h => h) (Or.inl ⟨by rfl, ?_⟩) (by assumption) ?_
              · intro W hSw
                try dsimp only at hSw
                go_simp
              try simp only [Act.put, List.getElem_toArray, List.getElem_cons_succ, List.getElem_cons_zero, List.setIfInBounds_toArray, List.set_cons_zero, List.set_cons_succ]
              refine wpAnyH_take (i := 3) (oi := _) (v := .int .i64 (j : Int)) rfl (by kernel_rfl) (by kernel_rfl) (by kernel_rfl) (fun _ _ _ h => h) (Or.inl ⟨by rfl, ?_⟩) (by assumption) ?_
              · intro W hSw
                try dsimp only at hSw
                go_simp
              try simp only [Act.put, List.getElem_toArray, List.getElem_cons_succ, List.getElem_cons_zero, List.setIfInBounds_toArray, List.set_cons_zero, List.set_cons_succ]
              refine wpAnyH_take (i := 4) (oi := _) (v := .int .u8 (x1 : Int)) rfl (by kernel_rfl) (by kernel_rfl) (by kernel_rfl) (fun _ _ _ h => h) (Or.inl ⟨by rfl, ?_⟩) (by assumption) ?_
              · intro W hSw
                try dsimp only at hSw
                go_simp
              try simp only [Act.put, List.getElem_toArray, List.getElem_cons_succ, List.getElem_cons_zero, List.setIfInBounds_toArray, List.set_cons_zero, List.set_cons_succ]
              refine wpAnyH_take (i := 7) (oi := _) (v := .string ⟨d.toArray⟩) rfl (by kernel_rfl) (by kernel_rfl) (by kernel_rfl) (fun _ _ _ h => h) (Or.inl ⟨by rfl, ?_⟩) (by assumption) ?_
              · intro W hSw
                try dsimp only at hSw
                go_simp
              try simp only [Act.put, List.getElem_toArray, List.getElem_cons_succ, List.getElem_cons_zero, List.setIfInBounds_toArray, List.set_cons_zero, List.set_cons_succ]
              refine wpAnyH_take (i := 8) (oi := _) (v := .int .i64 (j : Int)) rfl (by kernel_rfl) (by kernel_rfl) (by kernel_rfl) (fun _ _ _ h => h) (Or.inl ⟨by rfl, ?_⟩) (by assumption) ?_
              · intro W hSw
                try dsimp only at hSw
                go_simp
              try simp only [Act.put, List.getElem_toArray, List.getElem_cons_succ, List.getElem_cons_zero, List.setIfInBounds_toArray, List.set_cons_zero, List.set_cons_succ]
              refine wpAnyH_take (i := 9) (oi := _) (v := .int .i64 ((j : Int) + 1)) rfl (by kernel_rfl) (by kernel_rfl) (by kernel_rfl) (fun _ _ _ h => h) (Or.inl ⟨by rfl, ?_⟩) (by assumption) ?_
              · intro W hSw
                try dsimp only at hSw
                go_simp
              try simp only [Act.put, List.getElem_toArray, List.getElem_cons_succ, List.getElem_cons_zero, List.setIfInBounds_toArray, List.set_cons_zero, List.set_cons_succ]
              refine wpAnyH_take (i := 10) (oi := _) (v := .int .u8 (x2 : Int)) rfl (by kernel_rfl) (by kernel_rfl) (by kernel_rfl) (fun _ _ _ h => h) (Or.inl ⟨by rfl, ?_⟩) (by assumption) ?_
              · intro W hSw
                try dsimp only at hSw
                go_simp
              try simp only [Act.put, List.getElem_toArray, List.getElem_cons_succ, List.getElem_cons_zero, List.setIfInBounds_toArray, List.set_cons_zero, List.set_cons_succ]
              refine wpAnyH_ready (rs := [1, 5]) (by kernel_rfl) (by simp) ?_
              refine AllReadyH.cons (o := _) rfl (fun K hK => ?_) (AllReadyH.cons (o := _) rfl (fun K hK => ?_) AllReadyH.nil)
              · go_simp
                refine hK.out _ _ (trivial) (fun hHeld => ?_)
                clear hK K
                try simp only [Act.put, List.getElem_toArray, List.getElem_cons_succ, List.getElem_cons_zero, List.setIfInBounds_toArray, List.set_cons_zero, List.set_cons_succ]
                refine wpAnyH_ready (rs := [5]) (by kernel_rfl) (by simp) ?_
                refine AllReadyH.cons (o := _) rfl (fun K hK => ?_) AllReadyH.nil
                go_simp
                refine (CD1.out _).mono ?_
                rintro e wa ⟨rfl, rfl⟩
                refine hK.out _ _ (trivial) (fun hHeld => ?_)
                clear hK K
                try simp only [Act.put, List.getElem_toArray, List.getElem_cons_succ, List.getElem_cons_zero, List.setIfInBounds_toArray, List.set_cons_zero, List.set_cons_succ]
                refine wpAnyH_take (i := 6) (oi := _) (v := .int .u8 (M1 : Int)) rfl (by kernel_rfl) (by kernel_rfl) (by kernel_rfl) (fun _ _ _ h => h) (Or.inl ⟨by rfl, ?_⟩) (by assumption) ?_
                · intro W hSw
                  try dsimp only at hSw
                  go_simp
                try simp only [Act.put, List.getElem_toArray, List.getElem_cons_succ, List.getElem_cons_zero, List.setIfInBounds_toArray, List.set_cons_zero, List.set_cons_succ]
                refine wpAnyH_ready (rs := [11]) (by kernel_rfl) (by simp) ?_
                refine AllReadyH.cons (o := _) rfl (fun K hK => ?_) AllReadyH.nil
                go_simp
                refine (CD2.out _).mono ?_
                rintro e wa ⟨rfl, rfl⟩
                refine hK.out _ _ (trivial) (fun hHeld => ?_)
                clear hK K
                try simp only [Act.put, List.getElem_toArray, List.getElem_cons_succ, List.getElem_cons_zero, List.setIfInBounds_toArray, List.set_cons_zero, List.set_cons_succ]
                refine wpAnyH_take (i := 12) (oi := _) (v := .int .u8 (z : Int)) rfl (by kernel_rfl) (by kernel_rfl) (by kernel_rfl) (fun _ _ _ h => h) (Or.inl ⟨by rfl, ?_⟩) (by assumption) ?_
                · intro W hSw
                  try dsimp only at hSw
                  go_simp
                try simp only [Act.put, List.getElem_toArray, List.getElem_cons_succ, List.getElem_cons_zero, List.setIfInBounds_toArray, List.set_cons_zero, List.set_cons_succ]
                refine wpAnyH_ready (rs := [13]) (by kernel_rfl) (by simp) ?_
                refine AllReadyH.cons (o := _) rfl (fun K hK => ?_) AllReadyH.nil
                go_simp
                obtain ⟨wb, hwb⟩ : ∃ g, (wz.alloc (.cells #[.int .u8 (z : Int)] 5)).drew = g := ⟨_, rfl⟩
                try rw [e2]
                rw [hwb]
                have hbb : Below wz.heap.size wz wb := by rw [← hwb]; exact ((Below.refl _ _).alloc (Nat.le_refl _) _).drew
                have HRb : Hid (ByteRow wb (some ⟨wz.heap.size, 0, none⟩) [z]) := hid (by rw [← hwb]; exact (ByteRow.one wz z).ext (Below.refl _ _).drew)
                have HXb := hid (HXj.out.ext hbb)
                have HOb := hid (HOj.out.ext hbb)
                have HMb : Hid (Mut (fun q => q = sb ∨ W3.heap.size ≤ q) W3 wb) := hid (HMj.out.trans ((Mut.of_below (F := fun g => wz.heap.size ≤ g) hbb).mono fun g _ e => .inr (Nat.le_trans HMj.out.size e)))
                have HSb : Hid (w6.heap.size ≤ wb.heap.size) := hid (by have h1 := HSj.out; have h2 := hbb.size; omega)
                have b3 : wb.cell? ⟨sb, 3, none⟩ = some (.slice da q dc) := HXb.out.c3
                clear hwb hbb
                refine hK.out _ _ (trivial) (fun hHeld => ?_)
                clear hK K
                try simp only [Act.put, List.getElem_toArray, List.getElem_cons_succ, List.getElem_cons_zero, List.setIfInBounds_toArray, List.set_cons_zero, List.set_cons_succ]
                refine wpAnyH_ready (rs := [14]) (by kernel_rfl) (by simp) ?_
                refine AllReadyH.cons (o := _) rfl (fun K hK => ?_) AllReadyH.nil
                refine step_appendBz (n := 1) (base := w6.heap.size) (by rfl) HOb.out HRb.out (hid rfl) (by have := HQL.out; have := HQJ.out; omega) HSb.out rfl rfl rfl ?_
                intro v8 wc hown8 hg8
                have hmg := grown_mutD hg8
                obtain ⟨ua, uc, hu, -, -⟩ := id hown8.row
                have hul : (ds ++ [z]).length = q + 1 := by have := HQL.out; simp; omega
                rw [hul] at hu
                subst hu
                have hog : ∀ g, (Value.slice da q dc).ownBlock = some g → w6.heap.size ≤ g := fun g e => (HOb.out.blkD e).1
                have HXc := hid (HXb.out.mut hmg (fun e => by have h1 := hog _ e; have h2 := HSBA.out.1; omega))
                have HMc : Hid (Mut (fun q => q = sb ∨ W3.heap.size ≤ q) W3 wc) := hid (HMb.out.trans (hmg.mono fun g _ e => .inr (by have h1 := hog _ e; have h2 := HSBA.out.2; omega)))
                have HSc : Hid (w6.heap.size ≤ wc.heap.size) := hid (Nat.le_trans HSb.out hmg.size)
                have HOc := hid hown8
                have c3 : wc.cell? ⟨sb, 3, none⟩ = some (.slice da q dc) := HXc.out.c3
                have fzc := HXc.out.f
                clear hown8 hg8 hmg hul hog
                refine hK.out _ _ (trivial) (fun hHeld => ?_)
                clear hK K
                try simp only [Act.put, List.getElem_toArray, List.getElem_cons_succ, List.getElem_cons_zero, List.setIfInBounds_toArray, List.set_cons_zero, List.set_cons_succ]
                refine wpAnyH_ready (rs := [15]) (by kernel_rfl) (by simp) ?_
                refine AllReadyH.cons (o := _) rfl (fun K hK => ?_) AllReadyH.nil
                go_simp
                refine hK.out _ _ (trivial) (fun hHeld => ?_)
                clear hK K
                try simp only [Act.put, List.getElem_toArray, List.getElem_cons_succ, List.getElem_cons_zero, List.setIfInBounds_toArray, List.set_cons_zero, List.set_cons_succ]
                refine wpAnyH_ready (rs := [16]) (by kernel_rfl) (by simp) ?_
                refine AllReadyH.cons (o := _) rfl (fun K hK => ?_) AllReadyH.nil
                go_simp
                refine hK.out _ _ (trivial) (fun hHeld => ?_)
                clear hK K
                try simp only [Act.put, List.getElem_toArray, List.getElem_cons_succ, List.getElem_cons_zero, List.setIfInBounds_toArray, List.set_cons_zero, List.set_cons_succ]
                refine wpAnyH_done (by kernel_rfl) ?_ _
                obtain ⟨wd2, hwd⟩ : ∃ g, wc.setCell ⟨sb, 3, none⟩ (.slice ua (q + 1) uc) = g := ⟨_, rfl⟩
                have HXd := hid (HXc.out.set3 (.slice ua (q + 1) uc))
                have HMd := hid (mut_set HMc.out sb 3 (.slice ua (q + 1) uc) (.inl rfl))
                have HOd := hid (OwnB.mutD HOc.out (mut1 (w := wc) (s := sb) (i := 3) (v := .slice ua (q + 1) uc)) (fun g e1 e2 => by have h1 := (HOc.out.blkD e1).1; have h2 := HSBA.out.1; omega))
                have HSd : Hid (w6.heap.size ≤ (wc.setCell ⟨sb, 3, none⟩ (.slice ua (q + 1) uc)).heap.size) := hid (by rw [World.size_setCell]; exact HSc.out)
                rw [hwd] at HXd HMd HOd HSd
                clear HXb HMb HOb HRb HSb b3 c3 fzc HXc HMc HSc HOc
                go_wp2_with fail
                try rw [hwd]
                go_roundw
                case rel => exact ⟨j + 2, q + 1, ua, uc, ds ++ [z], by go_num, by omega, by omega, hid (by have := HQJ.out; omega), hid (by have := HQL.out; simp; omega), hid (by rw [HUN.out, HUJ.out, List.append_assoc]; rfl), HXd, HOd, HMd, HSd⟩
                case measure => simp [intOf]; omega
              · go_simp
                refine (CD1.out _).mono ?_
                rintro e wa ⟨rfl, rfl⟩
                refine hK.out _ _ (trivial) (fun hHeld => ?_)
                clear hK K
                try simp only [Act.put, List.getElem_toArray, List.getElem_cons_succ, List.getElem_cons_zero, List.setIfInBounds_toArray, List.set_cons_zero, List.set_cons_succ]
                refine wpAnyH_take (i := 6) (oi := _) (v := .int .u8 (M1 : Int)) rfl (by kernel_rfl) (by kernel_rfl) (by kernel_rfl) (fun _ _ _ h => h) (Or.inl ⟨by rfl, ?_⟩) (by assumption) ?_
                · intro W hSw
                  try dsimp only at hSw
                  go_simp
                try simp only [Act.put, List.getElem_toArray, List.getElem_cons_succ, List.getElem_cons_zero, List.setIfInBounds_toArray, List.set_cons_zero, List.set_cons_succ]
                refine wpAnyH_ready (rs := [1, 11]) (by kernel_rfl) (by simp) ?_
                refine AllReadyH.cons (o := _) rfl (fun K hK => ?_) (AllReadyH.cons (o := _) rfl (fun K hK => ?_) AllReadyH.nil)
                · go_simp
                  refine hK.out _ _ (trivial) (fun hHeld => ?_)
                  clear hK K
                  try simp only [Act.put, List.getElem_toArray, List.getElem_cons_succ, List.getElem_cons_zero, List.setIfInBounds_toArray, List.set_cons_zero, List.set_cons_succ]
                  refine wpAnyH_ready (rs := [11]) (by kernel_rfl) (by simp) ?_
                  refine AllReadyH.cons (o := _) rfl (fun K hK => ?_) AllReadyH.nil
                  go_simp
                  refine (CD2.out _).mono ?_
                  rintro e wa ⟨rfl, rfl⟩
                  refine hK.out _ _ (trivial) (fun hHeld => ?_)
                  clear hK K
                  try simp only [Act.put, List.getElem_toArray, List.getElem_cons_succ, List.getElem_cons_zero, List.setIfInBounds_toArray, List.set_cons_zero, List.set_cons_succ]
                  refine wpAnyH_take (i := 12) (oi := _) (v := .int .u8 (z : Int)) rfl (by kernel_rfl) (by kernel_rfl) (by kernel_rfl) (fun _ _ _ h => h) (Or.inl ⟨by rfl, ?_⟩) (by assumption) ?_
                  · intro W hSw
                    try dsimp only at hSw
                    go_simp
                  try simp only [Act.put, List.getElem_toArray, List.getElem_cons_succ, List.getElem_cons_zero, List.setIfInBounds_toArray, List.set_cons_zero, List.set_cons_succ]
                  refine wpAnyH_ready (rs := [13]) (by kernel_rfl) (by simp) ?_
                  refine AllReadyH.cons (o := _) rfl (fun K hK => ?_) AllReadyH.nil
                  go_simp
                  obtain ⟨wb, hwb⟩ : ∃ g, (wz.alloc (.cells #[.int .u8 (z : Int)] 5)).drew = g := ⟨_, rfl⟩
                  try rw [e2]
                  rw [hwb]
                  have hbb : Below wz.heap.size wz wb := by rw [← hwb]; exact ((Below.refl _ _).alloc (Nat.le_refl _) _).drew
                  have HRb : Hid (ByteRow wb (some ⟨wz.heap.size, 0, none⟩) [z]) := hid (by rw [← hwb]; exact (ByteRow.one wz z).ext (Below.refl _ _).drew)
                  have HXb := hid (HXj.out.ext hbb)
                  have HOb := hid (HOj.out.ext hbb)
                  have HMb : Hid (Mut (fun q => q = sb ∨ W3.heap.size ≤ q) W3 wb) := hid (HMj.out.trans ((Mut.of_below (F := fun g => wz.heap.size ≤ g) hbb).mono fun g _ e => .inr (Nat.le_trans HMj.out.size e)))
                  have HSb : Hid (w6.heap.size ≤ wb.heap.size) := hid (by have h1 := HSj.out; have h2 := hbb.size; omega)
                  have b3 : wb.cell? ⟨sb, 3, none⟩ = some (.slice da q dc) := HXb.out.c3
                  clear hwb hbb
                  refine hK.out _ _ (trivial) (fun hHeld => ?_)
                  clear hK K
                  try simp only [Act.put, List.getElem_toArray, List.getElem_cons_succ, List.getElem_cons_zero, List.setIfInBounds_toArray, List.set_cons_zero, List.set_cons_succ]
                  refine wpAnyH_ready (rs := [14]) (by kernel_rfl) (by simp) ?_
                  refine AllReadyH.cons (o := _) rfl (fun K hK => ?_) AllReadyH.nil
                  refine step_appendBz (n := 1) (base := w6.heap.size) (by rfl) HOb.out HRb.out (hid rfl) (by have := HQL.out; have := HQJ.out; omega) HSb.out rfl rfl rfl ?_
                  intro v8 wc hown8 hg8
                  have hmg := grown_mutD hg8
                  obtain ⟨ua, uc, hu, -, -⟩ := id hown8.row
                  have hul : (ds ++ [z]).length = q + 1 := by have := HQL.out; simp; omega
                  rw [hul] at hu
                  subst hu
                  have hog : ∀ g, (Value.slice da q dc).ownBlock = some g → w6.heap.size ≤ g := fun g e => (HOb.out.blkD e).1
                  have HXc := hid (HXb.out.mut hmg (fun e => by have h1 := hog _ e; have h2 := HSBA.out.1; omega))
                  have HMc : Hid (Mut (fun q => q = sb ∨ W3.heap.size ≤ q) W3 wc) := hid (HMb.out.trans (hmg.mono fun g _ e => .inr (by have h1 := hog _ e; have h2 := HSBA.out.2; omega)))
                  have HSc : Hid (w6.heap.size ≤ wc.heap.size) := hid (Nat.le_trans HSb.out hmg.size)
                  have HOc := hid hown8
                  have c3 : wc.cell? ⟨sb, 3, none⟩ = some (.slice da q dc) := HXc.out.c3
                  have fzc := HXc.out.f
                  clear hown8 hg8 hmg hul hog
                  refine hK.out _ _ (trivial) (fun hHeld => ?_)
                  clear hK K
                  try simp only [Act.put, List.getElem_toArray, List.getElem_cons_succ, List.getElem_cons_zero, List.setIfInBounds_toArray, List.set_cons_zero, List.set_cons_succ]
                  refine wpAnyH_ready (rs := [15]) (by kernel_rfl) (by simp) ?_
                  refine AllReadyH.cons (o := _) rfl (fun K hK => ?_) AllReadyH.nil
                  go_simp
                  refine hK.out _ _ (trivial) (fun hHeld => ?_)
                  clear hK K
                  try simp only [Act.put, List.getElem_toArray, List.getElem_cons_succ, List.getElem_cons_zero, List.setIfInBounds_toArray, List.set_cons_zero, List.set_cons_succ]
                  refine wpAnyH_ready (rs := [16]) (by kernel_rfl) (by simp) ?_
                  refine AllReadyH.cons (o := _) rfl (fun K hK => ?_) AllReadyH.nil
                  go_simp
                  refine hK.out _ _ (trivial) (fun hHeld => ?_)
                  clear hK K
                  try simp only [Act.put, List.getElem_toArray, List.getElem_cons_succ, List.getElem_cons_zero, List.setIfInBounds_toArray, List.set_cons_zero, List.set_cons_succ]
                  refine wpAnyH_done (by kernel_rfl) ?_ _
                  obtain ⟨wd2, hwd⟩ : ∃ g, wc.setCell ⟨sb, 3, none⟩ (.slice ua (q + 1) uc) = g := ⟨_, rfl⟩
                  have HXd := hid (HXc.out.set3 (.slice ua (q + 1) uc))
                  have HMd := hid (mut_set HMc.out sb 3 (.slice ua (q + 1) uc) (.inl rfl))
                  have HOd := hid (OwnB.mutD HOc.out (mut1 (w := wc) (s := sb) (i := 3) (v := .slice ua (q + 1) uc)) (fun g e1 e2 => by have h1 := (HOc.out.blkD e1).1; have h2 := HSBA.out.1; omega))
                  have HSd : Hid (w6.heap.size ≤ (wc.setCell ⟨sb, 3, none⟩ (.slice ua (q + 1) uc)).heap.size) := hid (by rw [World.size_setCell]; exact HSc.out)
                  rw [hwd] at HXd HMd HOd HSd
                  clear HXb HMb HOb HRb HSb b3 c3 fzc HXc HMc HSc HOc
                  go_wp2_with fail
                  try rw [hwd]
                  go_roundw
                  case rel => exact ⟨j + 2, q + 1, ua, uc, ds ++ [z], by go_num, by omega, by omega, hid (by have := HQJ.out; omega), hid (by have := HQL.out; simp; omega), hid (by rw [HUN.out, HUJ.out, List.append_assoc]; rfl), HXd, HOd, HMd, HSd⟩
                  case measure => simp [intOf]; omega
                · go_simp
                  refine (CD2.out _).mono ?_
                  rintro e wa ⟨rfl, rfl⟩
                  refine hK.out _ _ (trivial) (fun hHeld => ?_)
                  clear hK K
                  try simp only [Act.put, List.getElem_toArray, List.getElem_cons_succ, List.getElem_cons_zero, List.setIfInBounds_toArray, List.set_cons_zero, List.set_cons_succ]
                  refine wpAnyH_take (i := 12) (oi := _) (v := .int .u8 (z : Int)) rfl (by kernel_rfl) (by kernel_rfl) (by kernel_rfl) (fun _ _ _ h => h) (Or.inl ⟨by rfl, ?_⟩) (by assumption) ?_
                  · intro W hSw
                    try dsimp only at hSw
                    go_simp
                  try simp only [Act.put, List.getElem_toArray, List.getElem_cons_succ, List.getElem_cons_zero, List.setIfInBounds_toArray, List.set_cons_zero, List.set_cons_succ]
                  refine wpAnyH_ready (rs := [1, 13]) (by kernel_rfl) (by simp) ?_
                  refine AllReadyH.cons (o := _) rfl (fun K hK => ?_) (AllReadyH.cons (o := _) rfl (fun K hK => ?_) AllReadyH.nil)
                  · go_simp
                    refine hK.out _ _ (trivial) (fun hHeld => ?_)
                    clear hK K
                    try simp only [Act.put, List.getElem_toArray, List.getElem_cons_succ, List.getElem_cons_zero, List.setIfInBounds_toArray, List.set_cons_zero, List.set_cons_succ]
                    refine wpAnyH_ready (rs := [13]) (by kernel_rfl) (by simp) ?_
                    refine AllReadyH.cons (o := _) rfl (fun K hK => ?_) AllReadyH.nil
                    go_simp
                    obtain ⟨wb, hwb⟩ : ∃ g, (wz.alloc (.cells #[.int .u8 (z : Int)] 5)).drew = g := ⟨_, rfl⟩
                    try rw [e2]
                    rw [hwb]
                    have hbb : Below wz.heap.size wz wb := by rw [← hwb]; exact ((Below.refl _ _).alloc (Nat.le_refl _) _).drew
                    have HRb : Hid (ByteRow wb (some ⟨wz.heap.size, 0, none⟩) [z]) := hid (by rw [← hwb]; exact (ByteRow.one wz z).ext (Below.refl _ _).drew)
                    have HXb := hid (HXj.out.ext hbb)
                    have HOb := hid (HOj.out.ext hbb)
                    have HMb : Hid (Mut (fun q => q = sb ∨ W3.heap.size ≤ q) W3 wb) := hid (HMj.out.trans ((Mut.of_below (F := fun g => wz.heap.size ≤ g) hbb).mono fun g _ e => .inr (Nat.le_trans HMj.out.size e)))
                    have HSb : Hid (w6.heap.size ≤ wb.heap.size) := hid (by have h1 := HSj.out; have h2 := hbb.size; omega)
                    have b3 : wb.cell? ⟨sb, 3, none⟩ = some (.slice da q dc) := HXb.out.c3
                    clear hwb hbb
                    refine hK.out _ _ (trivial) (fun hHeld => ?_)
                    clear hK K
                    try simp only [Act.put, List.getElem_toArray, List.getElem_cons_succ, List.getElem_cons_zero, List.setIfInBounds_toArray, List.set_cons_zero, List.set_cons_succ]
                    refine wpAnyH_ready (rs := [14]) (by kernel_rfl) (by simp) ?_
                    refine AllReadyH.cons (o := _) rfl (fun K hK => ?_) AllReadyH.nil
                    refine step_appendBz (n := 1) (base := w6.heap.size) (by rfl) HOb.out HRb.out (hid rfl) (by have := HQL.out; have := HQJ.out; omega) HSb.out rfl rfl rfl ?_
                    intro v8 wc hown8 hg8
                    have hmg := grown_mutD hg8
                    obtain ⟨ua, uc, hu, -, -⟩ := id hown8.row
                    have hul : (ds ++ [z]).length = q + 1 := by have := HQL.out; simp; omega
                    rw [hul] at hu
                    subst hu
                    have hog : ∀ g, (Value.slice da q dc).ownBlock = some g → w6.heap.size ≤ g := fun g e => (HOb.out.blkD e).1
                    have HXc := hid (HXb.out.mut hmg (fun e => by have h1 := hog _ e; have h2 := HSBA.out.1; omega))
                    have HMc : Hid (Mut (fun q => q = sb ∨ W3.heap.size ≤ q) W3 wc) := hid (HMb.out.trans (hmg.mono fun g _ e => .inr (by have h1 := hog _ e; have h2 := HSBA.out.2; omega)))
                    have HSc : Hid (w6.heap.size ≤ wc.heap.size) := hid (Nat.le_trans HSb.out hmg.size)
                    have HOc := hid hown8
                    have c3 : wc.cell? ⟨sb, 3, none⟩ = some (.slice da q dc) := HXc.out.c3
                    have fzc := HXc.out.f
                    clear hown8 hg8 hmg hul hog
                    refine hK.out _ _ (trivial) (fun hHeld => ?_)
                    clear hK K
                    try simp only [Act.put, List.getElem_toArray, List.getElem_cons_succ, List.getElem_cons_zero, List.setIfInBounds_toArray, List.set_cons_zero, List.set_cons_succ]
                    refine wpAnyH_ready (rs := [15]) (by kernel_rfl) (by simp) ?_
                    refine AllReadyH.cons (o := _) rfl (fun K hK => ?_) AllReadyH.nil
                    go_simp
                    refine hK.out _ _ (trivial) (fun hHeld => ?_)
                    clear hK K
                    try simp only [Act.put, List.getElem_toArray, List.getElem_cons_succ, List.getElem_cons_zero, List.setIfInBounds_toArray, List.set_cons_zero, List.set_cons_succ]
                    refine wpAnyH_ready (rs := [16]) (by kernel_rfl) (by simp) ?_
                    refine AllReadyH.cons (o := _) rfl (fun K hK => ?_) AllReadyH.nil
                    go_simp
                    refine hK.out _ _ (trivial) (fun hHeld => ?_)
                    clear hK K
                    try simp only [Act.put, List.getElem_toArray, List.getElem_cons_succ, List.getElem_cons_zero, List.setIfInBounds_toArray, List.set_cons_zero, List.set_cons_succ]
                    refine wpAnyH_done (by kernel_rfl) ?_ _
                    obtain ⟨wd2, hwd⟩ : ∃ g, wc.setCell ⟨sb, 3, none⟩ (.slice ua (q + 1) uc) = g := ⟨_, rfl⟩
                    have HXd := hid (HXc.out.set3 (.slice ua (q + 1) uc))
                    have HMd := hid (mut_set HMc.out sb 3 (.slice ua (q + 1) uc) (.inl rfl))
                    have HOd := hid (OwnB.mutD HOc.out (mut1 (w := wc) (s := sb) (i := 3) (v := .slice ua (q + 1) uc)) (fun g e1 e2 => by have h1 := (HOc.out.blkD e1).1; have h2 := HSBA.out.1; omega))
                    have HSd : Hid (w6.heap.size ≤ (wc.setCell ⟨sb, 3, none⟩ (.slice ua (q + 1) uc)).heap.size) := hid (by rw [World.size_setCell]; exact HSc.out)
                    rw [hwd] at HXd HMd HOd HSd
                    clear HXb HMb HOb HRb HSb b3 c3 fzc HXc HMc HSc HOc
                    go_wp2_with fail
                    try rw [hwd]
                    go_roundw
                    case rel => exact ⟨j + 2, q + 1, ua, uc, ds ++ [z], by go_num, by omega, by omega, hid (by have := HQJ.out; omega), hid (by have := HQL.out; simp; omega), hid (by rw [HUN.out, HUJ.out, List.append_assoc]; rfl), HXd, HOd, HMd, HSd⟩
                    case measure => simp [intOf]; omega
                  · go_simp
                    obtain ⟨wb, hwb⟩ : ∃ g, (wz.alloc (.cells #[.int .u8 (z : Int)] 5)).drew = g := ⟨_, rfl⟩
                    try rw [e2]
                    rw [hwb]
                    have hbb : Below wz.heap.size wz wb := by rw [← hwb]; exact ((Below.refl _ _).alloc (Nat.le_refl _) _).drew
                    have HRb : Hid (ByteRow wb (some ⟨wz.heap.size, 0, none⟩) [z]) := hid (by rw [← hwb]; exact (ByteRow.one wz z).ext (Below.refl _ _).drew)
                    have HXb := hid (HXj.out.ext hbb)
                    have HOb := hid (HOj.out.ext hbb)
                    have HMb : Hid (Mut (fun q => q = sb ∨ W3.heap.size ≤ q) W3 wb) := hid (HMj.out.trans ((Mut.of_below (F := fun g => wz.heap.size ≤ g) hbb).mono fun g _ e => .inr (Nat.le_trans HMj.out.size e)))
                    have HSb : Hid (w6.heap.size ≤ wb.heap.size) := hid (by have h1 := HSj.out; have h2 := hbb.size; omega)
                    have b3 : wb.cell? ⟨sb, 3, none⟩ = some (.slice da q dc) := HXb.out.c3
                    clear hwb hbb
                    refine hK.out _ _ (trivial) (fun hHeld => ?_)
                    clear hK K
                    try simp only [Act.put, List.getElem_toArray, List.getElem_cons_succ, List.getElem_cons_zero, List.setIfInBounds_toArray, List.set_cons_zero, List.set_cons_succ]
                    refine wpAnyH_ready (rs := [1]) (by kernel_rfl) (by simp) ?_
                    refine AllReadyH.cons (o := _) rfl (fun K hK => ?_) AllReadyH.nil
                    go_simp
                    refine hK.out _ _ (trivial) (fun hHeld => ?_)
                    clear hK K
                    try simp only [Act.put, List.getElem_toArray, List.getElem_cons_succ, List.getElem_cons_zero, List.setIfInBounds_toArray, List.set_cons_zero, List.set_cons_succ]
                    refine wpAnyH_ready (rs := [14]) (by kernel_rfl) (by simp) ?_
                    refine AllReadyH.cons (o := _) rfl (fun K hK => ?_) AllReadyH.nil
                    refine step_appendBz (n := 1) (base := w6.heap.size) (by rfl) HOb.out HRb.out (hid rfl) (by have := HQL.out; have := HQJ.out; omega) HSb.out rfl rfl rfl ?_
                    intro v8 wc hown8 hg8
                    have hmg := grown_mutD hg8
                    obtain ⟨ua, uc, hu, -, -⟩ := id hown8.row
                    have hul : (ds ++ [z]).length = q + 1 := by have := HQL.out; simp; omega
                    rw [hul] at hu
                    subst hu
                    have hog : ∀ g, (Value.slice da q dc).ownBlock = some g → w6.heap.size ≤ g := fun g e => (HOb.out.blkD e).1
                    have HXc := hid (HXb.out.mut hmg (fun e => by have h1 := hog _ e; have h2 := HSBA.out.1; omega))
                    have HMc : Hid (Mut (fun q => q = sb ∨ W3.heap.size ≤ q) W3 wc) := hid (HMb.out.trans (hmg.mono fun g _ e => .inr (by have h1 := hog _ e; have h2 := HSBA.out.2; omega)))
                    have HSc : Hid (w6.heap.size ≤ wc.heap.size) := hid (Nat.le_trans HSb.out hmg.size)
                    have HOc := hid hown8
                    have c3 : wc.cell? ⟨sb, 3, none⟩ = some (.slice da q dc) := HXc.out.c3
                    have fzc := HXc.out.f
                    clear hown8 hg8 hmg hul hog
                    refine hK.out _ _ (trivial) (fun hHeld => ?_)
                    clear hK K
                    try simp only [Act.put, List.getElem_toArray, List.getElem_cons_succ, List.getElem_cons_zero, List.setIfInBounds_toArray, List.set_cons_zero, List.set_cons_succ]
                    refine wpAnyH_ready (rs := [15]) (by kernel_rfl) (by simp) ?_
                    refine AllReadyH.cons (o := _) rfl (fun K hK => ?_) AllReadyH.nil
                    go_simp
                    refine hK.out _ _ (trivial) (fun hHeld => ?_)
                    clear hK K
                    try simp only [Act.put, List.getElem_toArray, List.getElem_cons_succ, List.getElem_cons_zero, List.setIfInBounds_toArray, List.set_cons_zero, List.set_cons_succ]
                    refine wpAnyH_ready (rs := [16]) (by kernel_rfl) (by simp) ?_
                    refine AllReadyH.cons (o := _) rfl (fun K hK => ?_) AllReadyH.nil
                    go_simp
                    refine hK.out _ _ (trivial) (fun hHeld => ?_)
                    clear hK K
                    try simp only [Act.put, List.getElem_toArray, List.getElem_cons_succ, List.getElem_cons_zero, List.setIfInBounds_toArray, List.set_cons_zero, List.set_cons_succ]
                    refine wpAnyH_done (by kernel_rfl) ?_ _
                    obtain ⟨wd2, hwd⟩ : ∃ g, wc.setCell ⟨sb, 3, none⟩ (.slice ua (q + 1) uc) = g := ⟨_, rfl⟩
                    have HXd := hid (HXc.out.set3 (.slice ua (q + 1) uc))
                    have HMd := hid (mut_set HMc.out sb 3 (.slice ua (q + 1) uc) (.inl rfl))
                    have HOd := hid (OwnB.mutD HOc.out (mut1 (w := wc) (s := sb) (i := 3) (v := .slice ua (q + 1) uc)) (fun g e1 e2 => by have h1 := (HOc.out.blkD e1).1; have h2 := HSBA.out.1; omega))
                    have HSd : Hid (w6.heap.size ≤ (wc.setCell ⟨sb, 3, none⟩ (.slice ua (q + 1) uc)).heap.size) := hid (by rw [World.size_setCell]; exact HSc.out)
                    rw [hwd] at HXd HMd HOd HSd
                    clear HXb HMb HOb HRb HSb b3 c3 fzc HXc HMc HSc HOc
                    go_wp2_with fail
                    try rw [hwd]
                    go_roundw
                    case rel => exact ⟨j + 2, q + 1, ua, uc, ds ++ [z], by go_num, by omega, by omega, hid (by have := HQJ.out; omega), hid (by have := HQL.out; simp; omega), hid (by rw [HUN.out, HUJ.out, List.append_assoc]; rfl), HXd, HOd, HMd, HSd⟩
                    case measure => simp [intOf]; omega
            · have d1 : decide ((j : Int) + 1 < (dl : Int)) = false := decide_eq_false (by omega)
              have d2 : decide (j + 1 < dl) = false := decide_eq_false (by omega)
              have e0 : IntKind.i64.wrap ((j : Int) + 1) = (j : Int) + 1 := by rw [IntKind.wrap_i64]; omega
              have HDD : Hid (unhexR ((L.getD (L.length - 1) []).drop 1) = ds) := hid (by rw [HDE.out, HUN.out, unhexR_end (i := j) (by rw [HDL.out]; omega), List.append_nil])
              obtain ⟨ua, uc, hu, hrw, -⟩ := id HOj.out.row
              injection hu with hu1 hu2 hu3
              have HRW : Hid (ByteRow wz da ds) := hid (by rw [hu1]; exact hrw)
              have HDG : Hid (∀ b off, da = some ⟨b, off, none⟩ → w.heap.size < b ∧ b < wz.heap.size) := hid fun b off e => by
                have h1 : w6.heap.size ≤ b ∧ b < wz.heap.size := HOj.out.blkD (by rw [e]; rfl)
                have h2 := HSBA.out.2
                have h3 := HG3.out
                clear hj1 hj HQJ HQL d1 d2 e0
                exact ⟨by omega, h1.2⟩
              rename World => w30
              have HX30 := HXj
              have HM30 := HMj
              clear hu1 hu2 hu3 hrw HXj HMj HOj HUN HDE
              have HEX : Hid (readR ⟨xk, word, false, true⟩ L = ⟨xk, v1, 0, ds⟩) := hid (by
                show (⟨xk, valR (L.getD 1 []), 0, unhexR ((L.getD (L.length - 1) []).drop 1)⟩ : StepD) = _
                rw [HV1.out, HDD.out])
              have HRX : Hid (r = if lineP ⟨xk, v1, 0, ds⟩ = some (s ++ [10]) then some ⟨xk, v1, 0, ds⟩ else none) := hid (by rw [HRR.out, HEX.out])
              have HOKX : Hid (StepOk ⟨xk, v1, 0, ds⟩) := hid (by rw [← HEX.out]; exact readR_ok _ _)
              have CL := refLine_any (s := ⟨xk, v1, 0, ds⟩) (a := da) (c := dc) (n := q) (w := w30) ⟨by have := HXK.out; exact ⟨by simp only; omega, by simp only; omega⟩, HOKX.out, HRW.out⟩ HQL (by first | omega | (have := HQJ.out; omega))
              obtain ⟨lp, hlp⟩ : ∃ lp, lineP ⟨xk, v1, 0, ds⟩ = lp := ⟨_, rfl⟩
              rw [hlp] at HRX CL
              have HLP := hid hlp
              clear hlp HRR HEX
              have y0 := HX30.out.c0
              have y1 := HX30.out.c1
              have y2 := HX30.out.c2
              have y3 := HX30.out.c3
              rcases lp with _ | t
              · have HRN : Hid (r = none) := hid (by rw [HRX.out, if_neg (by simp)])
                have CLH : Hid (Calls Tryz.prog 62 #[.agg #[.int .i64 xk, .int .i64 v1, .int .i64 0, .slice da q dc]] w30 fun e w' => e = .returned (.tuple #[.string ⟨#[]⟩, .bool false]) ∧ Below w30.heap.size w30 w') := hid CL
                clear CL
                go_wp2_with fail
                refine CLH.out.mono ?_
                rintro e w31 ⟨rfl, hb31⟩
                clear CLH
                have HRWb := hid (HRW.out.ext hb31)
                have HSZb : Hid (w30.heap.size ≤ w31.heap.size) := hid hb31.size
                clear HRW
                have HM31 : Hid (Mut (fun q => q = sb ∨ W3.heap.size ≤ q) W3 w31) := hid (HM30.out.trans ((Mut.of_below (F := fun q => w30.heap.size ≤ q) hb31).mono fun q _ e => .inr (Nat.le_trans HM30.out.size e)))
                have HX31 := hid (HX30.out.ext hb31)
                clear hb31 HM30 HX30
                clear y0 y1 y2 y3 HRX HLP
                have HB0 : Hid (Below w.heap.size w w31) := hid (HB3.out.trans (HM31.out.below (B := w.heap.size) (by have := HB3.out.size; omega) fun q e => by have := HG3.out; have := HB3.out.size; rcases e with e | e <;> omega))
                have HX0 := hid (HX3.out.mut HM31.out (fun e => by have := HG3.out; rcases e with e | e <;> omega))
                have z0 := HX0.out.c0
                have z1 := HX0.out.c1
                have z2 := HX0.out.c2
                have z3 := HX0.out.c3
                have zf := HX0.out.f
                go_wp2_with fail
                refine bodyPost_ret (v := .tuple #[.agg ([.int .i64 0, .int .i64 0, .int .i64 0, .slice none 0 0] : List Value).toArray, .bool false]) (results_cell_tmp (p := 2) (q := 3) (ty := 62) rfl _ _ w.heap.size [.int .i64 0, .int .i64 0, .int .i64 0, .slice none 0 0] _ rfl (HX0.out.all _ _ _ _).range Tryz.underlying62 rfl (infoStepL _ _ _ _)) rfl ⟨by rw [HRN.out]; rfl, below_all HB0.out (Nat.le_refl _) _ _ _ _⟩
              · by_cases heq : t = s ++ [10]
                · have HRS : Hid (r = some ⟨xk, v1, 0, ds⟩) := hid (by rw [HRX.out, heq, if_pos rfl])
                  have u1 : (t != s ++ [10]) = false := by simp [heq]
                  have u2 : (t == s ++ [10]) = true := by simp [heq]
                  have acat := run_cat s [10] (by have := HS.out; omega) (by simp)
                  clear heq HRX HLP
                  have CLH : Hid (Calls Tryz.prog 62 #[.agg #[.int .i64 xk, .int .i64 v1, .int .i64 0, .slice da q dc]] w30 fun e w' => e = .returned (.tuple #[.string ⟨t.toArray⟩, .bool true]) ∧ Below w30.heap.size w30 w') := hid CL
                  clear CL
                  go_wp2_with fail
                  refine CLH.out.mono ?_
                  rintro e w31 ⟨rfl, hb31⟩
                  clear CLH
                  have HRWb := hid (HRW.out.ext hb31)
                  have HSZb : Hid (w30.heap.size ≤ w31.heap.size) := hid hb31.size
                  clear HRW
                  have HM31 : Hid (Mut (fun q => q = sb ∨ W3.heap.size ≤ q) W3 w31) := hid (HM30.out.trans ((Mut.of_below (F := fun q => w30.heap.size ≤ q) hb31).mono fun q _ e => .inr (Nat.le_trans HM30.out.size e)))
                  have HX31 := hid (HX30.out.ext hb31)
                  clear hb31 HM30 HX30
                  clear y0 y1 y2 y3
                  have HB0 : Hid (Below w.heap.size w w31) := hid (HB3.out.trans (HM31.out.below (B := w.heap.size) (by have := HB3.out.size; omega) fun q e => by have := HG3.out; have := HB3.out.size; rcases e with e | e <;> omega))
                  have HX0 := hid (HX3.out.mut HM31.out (fun e => by have := HG3.out; rcases e with e | e <;> omega))
                  have z0 := HX0.out.c0
                  have z1 := HX0.out.c1
                  have z2 := HX0.out.c2
                  have z3 := HX0.out.c3
                  have zf := HX0.out.f
                  have y0 := HX31.out.c0
                  have y1 := HX31.out.c1
                  have y2 := HX31.out.c2
                  have y3 := HX31.out.c3
                  go_wp2_with fail
                  refine bodyPost_ret (v := .tuple #[.agg ([.int .i64 xk, .int .i64 v1, .int .i64 0, .slice da q dc] : List Value).toArray, .bool true]) (results_cell_tmp (p := 2) (q := 3) (ty := 62) rfl _ _ w.heap.size [.int .i64 xk, .int .i64 v1, .int .i64 0, .slice da q dc] _ rfl (HX0.out.all _ _ _ _).range Tryz.underlying62 rfl (infoStepL _ _ _ _)) rfl ⟨?_, below_all HB0.out (Nat.le_refl _) _ _ _ _⟩
                  rw [HRS.out]
                  refine ⟨da, dc, by rw [HQL.out], ?_, fun b off e => by have := HDG.out b off e; have := HSZb.out; simp only [World.size_setCell]; omega⟩
                  exact HRWb.out.mutT (mut_all _ _ _ _ _ _) fun b off e hne h => by have := HDG.out b off e; omega
                · have HRN : Hid (r = none) := hid (by rw [HRX.out, if_neg (fun h => heq (Option.some.inj h))])
                  have u1 : (t != s ++ [10]) = true := by simpa using heq
                  have u2 : (t == s ++ [10]) = false := by simpa using heq
                  have acat := run_cat s [10] (by have := HS.out; omega) (by simp)
                  clear heq HRX HLP
                  have CLH : Hid (Calls Tryz.prog 62 #[.agg #[.int .i64 xk, .int .i64 v1, .int .i64 0, .slice da q dc]] w30 fun e w' => e = .returned (.tuple #[.string ⟨t.toArray⟩, .bool true]) ∧ Below w30.heap.size w30 w') := hid CL
                  clear CL
                  go_wp2_with fail
                  refine CLH.out.mono ?_
                  rintro e w31 ⟨rfl, hb31⟩
                  clear CLH
                  have HRWb := hid (HRW.out.ext hb31)
                  have HSZb : Hid (w30.heap.size ≤ w31.heap.size) := hid hb31.size
                  clear HRW
                  have HM31 : Hid (Mut (fun q => q = sb ∨ W3.heap.size ≤ q) W3 w31) := hid (HM30.out.trans ((Mut.of_below (F := fun q => w30.heap.size ≤ q) hb31).mono fun q _ e => .inr (Nat.le_trans HM30.out.size e)))
                  have HX31 := hid (HX30.out.ext hb31)
                  clear hb31 HM30 HX30
                  clear y0 y1 y2 y3
                  have HB0 : Hid (Below w.heap.size w w31) := hid (HB3.out.trans (HM31.out.below (B := w.heap.size) (by have := HB3.out.size; omega) fun q e => by have := HG3.out; have := HB3.out.size; rcases e with e | e <;> omega))
                  have HX0 := hid (HX3.out.mut HM31.out (fun e => by have := HG3.out; rcases e with e | e <;> omega))
                  have z0 := HX0.out.c0
                  have z1 := HX0.out.c1
                  have z2 := HX0.out.c2
                  have z3 := HX0.out.c3
                  have zf := HX0.out.f
                  go_wp2_with fail
                  refine bodyPost_ret (v := .tuple #[.agg ([.int .i64 0, .int .i64 0, .int .i64 0, .slice none 0 0] : List Value).toArray, .bool false]) (results_cell_tmp (p := 2) (q := 3) (ty := 62) rfl _ _ w.heap.size [.int .i64 0, .int .i64 0, .int .i64 0, .slice none 0 0] _ rfl (HX0.out.all _ _ _ _).range Tryz.underlying62 rfl (infoStepL _ _ _ _)) rfl ⟨by rw [HRN.out]; rfl, below_all HB0.out (Nat.le_refl _) _ _ _ _⟩
        · have HRN : Hid (r = none) := hid (by rw [HR.out, if_neg (fun e => hlen (by rw [← HN.out]; exact e))])
          have g1 : ((n : Int) != 3) = true := by rw [bne_iff_ne]; omega
          have g2 : (n != 3) = true := by rw [bne_iff_ne]; exact hlen
          have g3 : ((n : Int) == 3) = false := by rw [beq_eq_false_iff_ne]; omega
          clear HR hlen
          have HB0 : Hid (Below w.heap.size w w4) := hid (HB3.out.trans (HM4.out.below (B := w.heap.size) (by have := HB3.out.size; omega) fun q e => by have := HG3.out; have := HB3.out.size; rcases e with e | e <;> omega))
          have HX0 := hid (HX3.out.mut HM4.out (fun e => by have := HG3.out; rcases e with e | e <;> omega))
          have z0 := HX0.out.c0
          have z1 := HX0.out.c1
          have z2 := HX0.out.c2
          have z3 := HX0.out.c3
          have zf := HX0.out.f
          go_wp2_with fail
          refine bodyPost_ret (v := .tuple #[.agg ([.int .i64 0, .int .i64 0, .int .i64 0, .slice none 0 0] : List Value).toArray, .bool false]) (results_cell_tmp (p := 2) (q := 3) (ty := 62) rfl _ _ w.heap.size [.int .i64 0, .int .i64 0, .int .i64 0, .slice none 0 0] _ rfl (HX0.out.all _ _ _ _).range Tryz.underlying62 rfl (infoStepL _ _ _ _)) rfl ⟨by rw [HRN.out]; rfl, below_all HB0.out (Nat.le_refl _) _ _ _ _⟩
      · have CWH : Hid (Calls Tryz.prog 59 #[.int .i64 xk] wr fun e w' => e = .returned (.tuple #[.string ⟨wd.toArray⟩, .string ⟨([98] : List UInt8).toArray⟩]) ∧ Below wr.heap.size wr w') := hid CW
        have HR : Hid (r = if L.length = 3 then (if lineP (readR ⟨xk, word, true, false⟩ L) = some (s ++ [10]) then some (readR ⟨xk, word, true, false⟩ L) else none) else none) := hid HR.out
        clear HH HK hbx CW
        have z0 := HX6.out.c0
        go_wp2_with fail
        refine CWH.out.mono ?_
        rintro e w4 ⟨rfl, hb4⟩
        have HM4 : Hid (Mut (fun q => q = sb ∨ W3.heap.size ≤ q) W3 w4) := hid (hmu.out.trans ((Mut.of_below (F := fun q => wr.heap.size ≤ q) hb4).mono fun q _ e => .inr (Nat.le_trans hmu.out.size e)))
        have HX4 := hid (HX6.out.ext hb4)
        clear hb4 CWH hmu HX6 z0
        by_cases hlen : n = 3
        · subst hlen
          have HRR : Hid (r = if lineP (readR ⟨xk, word, true, false⟩ L) = some (s ++ [10]) then some (readR ⟨xk, word, true, false⟩ L) else none) := hid (by rw [HR.out, if_pos HN.out])
          clear HR
          obtain ⟨t1, ht1⟩ : ∃ t, L[1]? = some t := ⟨L[1]'(by rw [HN.out]; decide), List.getElem?_eq_getElem _⟩
          have CV := hid (refValue_any (s := t1) (w := w4) (by have := HLE.out t1 (List.mem_of_getElem? ht1); have := HS.out; omega))
          obtain ⟨v1, hv1⟩ : ∃ v, valR t1 = v := ⟨_, rfl⟩
          rw [hv1] at CV
          have HV1 : Hid (valR (L.getD 1 []) = v1) := hid (by rw [List.getD_eq_getElem?_getD, ht1]; exact hv1)
          have p1 := HPC.out w4 1 t1 HM4.out ht1
          clear hv1 ht1
          go_wp2_with fail
          refine CV.out.mono ?_
          rintro e w5 ⟨rfl, hb5⟩
          clear CV p1
          have HM5 : Hid (Mut (fun q => q = sb ∨ W3.heap.size ≤ q) W3 w5) := hid (HM4.out.trans ((Mut.of_below (F := fun q => w4.heap.size ≤ q) hb5).mono fun q _ e => .inr (Nat.le_trans HM4.out.size e)))
          have HX5 := hid (HX4.out.ext hb5)
          clear hb5 HM4 HX4
          have z1 := HX5.out.c1
          have zf := HX5.out.f
          go_upto_region 13 with fail
          have HX6 := hid (HX5.out.set1 (.int .i64 v1))
          have HM6 := hid (mut_set HM5.out sb 1 (.int .i64 v1) (.inl rfl))
          obtain ⟨w6, hw6⟩ : ∃ z, w5.setCell ⟨sb, 1, none⟩ (.int .i64 v1) = z := ⟨_, rfl⟩
          rw [hw6] at HX6 HM6
          rw [hw6]
          clear hw6 z1 zf HX5 HM5
          obtain ⟨t2, ht2⟩ : ∃ t, L[2]? = some t := ⟨L[2]'(by rw [HN.out]; decide), List.getElem?_eq_getElem _⟩
          have CV := hid (refValue_any (s := t2) (w := w6) (by have := HLE.out t2 (List.mem_of_getElem? ht2); have := HS.out; omega))
          obtain ⟨v2, hv2⟩ : ∃ v, valR t2 = v := ⟨_, rfl⟩
          rw [hv2] at CV
          have HV2 : Hid (valR (L.getD 2 []) = v2) := hid (by rw [List.getD_eq_getElem?_getD, ht2]; exact hv2)
          have p2 := HPC.out w6 2 t2 HM6.out ht2
          clear hv2 ht2
          go_wp2_with fail
          refine CV.out.mono ?_
          rintro e w7 ⟨rfl, hb7⟩
          clear CV p2
          have HM7 : Hid (Mut (fun q => q = sb ∨ W3.heap.size ≤ q) W3 w7) := hid (HM6.out.trans ((Mut.of_below (F := fun q => w6.heap.size ≤ q) hb7).mono fun q _ e => .inr (Nat.le_trans HM6.out.size e)))
          have HX7 := hid (HX6.out.ext hb7)
          clear hb7 HM6 HX6
          have z2 := HX7.out.c2
          have zf := HX7.out.f
          go_upto_region 15 with fail
          have HX8 := hid (HX7.out.set2 (.int .i64 v2))
          have HM8 := hid (mut_set HM7.out sb 2 (.int .i64 v2) (.inl rfl))
          obtain ⟨w8, hw8⟩ : ∃ z, w7.setCell ⟨sb, 2, none⟩ (.int .i64 v2) = z := ⟨_, rfl⟩
          rw [hw8] at HX8 HM8
          rw [hw8]
          clear hw8 z2 zf HX7 HM7
          have HEX : Hid (readR ⟨xk, word, true, false⟩ L = ⟨xk, v1, v2, []⟩) := hid (by
            show (⟨xk, valR (L.getD 1 []), valR (L.getD 2 []), []⟩ : StepD) = _
            rw [HV1.out, HV2.out])
          have HRX : Hid (r = if lineP ⟨xk, v1, v2, []⟩ = some (s ++ [10]) then some ⟨xk, v1, v2, []⟩ else none) := hid (by rw [HRR.out, HEX.out])
          have HOKX : Hid (StepOk ⟨xk, v1, v2, []⟩) := hid (by rw [← HEX.out]; exact readR_ok _ _)
          have CL := refLine_any (s := ⟨xk, v1, v2, []⟩) (a := none) (c := 0) (n := 0) (w := w8) ⟨by have := HXK.out; exact ⟨by simp only; omega, by simp only; omega⟩, HOKX.out, .inl rfl⟩ (hid rfl) (by first | omega | (have := HQJ.out; omega))
          obtain ⟨lp, hlp⟩ : ∃ lp, lineP ⟨xk, v1, v2, []⟩ = lp := ⟨_, rfl⟩
          rw [hlp] at HRX CL
          have HLP := hid hlp
          clear hlp HRR HEX
          have y0 := HX8.out.c0
          have y1 := HX8.out.c1
          have y2 := HX8.out.c2
          have y3 := HX8.out.c3
          rcases lp with _ | t
          · have HRN : Hid (r = none) := hid (by rw [HRX.out, if_neg (by simp)])
            have CLH : Hid (Calls Tryz.prog 62 #[.agg #[.int .i64 xk, .int .i64 v1, .int .i64 v2, .slice none 0 0]] w8 fun e w' => e = .returned (.tuple #[.string ⟨#[]⟩, .bool false]) ∧ Below w8.heap.size w8 w') := hid CL
            clear CL
            go_wp2_with fail
            refine CLH.out.mono ?_
            rintro e w9 ⟨rfl, hb9⟩
            clear CLH
            have HM9 : Hid (Mut (fun q => q = sb ∨ W3.heap.size ≤ q) W3 w9) := hid (HM8.out.trans ((Mut.of_below (F := fun q => w8.heap.size ≤ q) hb9).mono fun q _ e => .inr (Nat.le_trans HM8.out.size e)))
            have HX9 := hid (HX8.out.ext hb9)
            clear hb9 HM8 HX8
            clear y0 y1 y2 y3 HRX HLP
            have HB0 : Hid (Below w.heap.size w w9) := hid (HB3.out.trans (HM9.out.below (B := w.heap.size) (by have := HB3.out.size; omega) fun q e => by have := HG3.out; have := HB3.out.size; rcases e with e | e <;> omega))
            have HX0 := hid (HX3.out.mut HM9.out (fun e => by have := HG3.out; rcases e with e | e <;> omega))
            have z0 := HX0.out.c0
            have z1 := HX0.out.c1
            have z2 := HX0.out.c2
            have z3 := HX0.out.c3
            have zf := HX0.out.f
            go_wp2_with fail
            refine bodyPost_ret (v := .tuple #[.agg ([.int .i64 0, .int .i64 0, .int .i64 0, .slice none 0 0] : List Value).toArray, .bool false]) (results_cell_tmp (p := 2) (q := 3) (ty := 62) rfl _ _ w.heap.size [.int .i64 0, .int .i64 0, .int .i64 0, .slice none 0 0] _ rfl (HX0.out.all _ _ _ _).range Tryz.underlying62 rfl (infoStepL _ _ _ _)) rfl ⟨by rw [HRN.out]; rfl, below_all HB0.out (Nat.le_refl _) _ _ _ _⟩
          · by_cases heq : t = s ++ [10]
            · have HRS : Hid (r = some ⟨xk, v1, v2, []⟩) := hid (by rw [HRX.out, heq, if_pos rfl])
              have u1 : (t != s ++ [10]) = false := by simp [heq]
              have u2 : (t == s ++ [10]) = true := by simp [heq]
              have acat := run_cat s [10] (by have := HS.out; omega) (by simp)
              clear heq HRX HLP
              have CLH : Hid (Calls Tryz.prog 62 #[.agg #[.int .i64 xk, .int .i64 v1, .int .i64 v2, .slice none 0 0]] w8 fun e w' => e = .returned (.tuple #[.string ⟨t.toArray⟩, .bool true]) ∧ Below w8.heap.size w8 w') := hid CL
              clear CL
              go_wp2_with fail
              refine CLH.out.mono ?_
              rintro e w9 ⟨rfl, hb9⟩
              clear CLH
              have HM9 : Hid (Mut (fun q => q = sb ∨ W3.heap.size ≤ q) W3 w9) := hid (HM8.out.trans ((Mut.of_below (F := fun q => w8.heap.size ≤ q) hb9).mono fun q _ e => .inr (Nat.le_trans HM8.out.size e)))
              have HX9 := hid (HX8.out.ext hb9)
              clear hb9 HM8 HX8
              clear y0 y1 y2 y3
              have HB0 : Hid (Below w.heap.size w w9) := hid (HB3.out.trans (HM9.out.below (B := w.heap.size) (by have := HB3.out.size; omega) fun q e => by have := HG3.out; have := HB3.out.size; rcases e with e | e <;> omega))
              have HX0 := hid (HX3.out.mut HM9.out (fun e => by have := HG3.out; rcases e with e | e <;> omega))
              have z0 := HX0.out.c0
              have z1 := HX0.out.c1
              have z2 := HX0.out.c2
              have z3 := HX0.out.c3
              have zf := HX0.out.f
              have y0 := HX9.out.c0
              have y1 := HX9.out.c1
              have y2 := HX9.out.c2
              have y3 := HX9.out.c3
              go_wp2_with fail
              refine bodyPost_ret (v := .tuple #[.agg ([.int .i64 xk, .int .i64 v1, .int .i64 v2, .slice none 0 0] : List Value).toArray, .bool true]) (results_cell_tmp (p := 2) (q := 3) (ty := 62) rfl _ _ w.heap.size [.int .i64 xk, .int .i64 v1, .int .i64 v2, .slice none 0 0] _ rfl (HX0.out.all _ _ _ _).range Tryz.underlying62 rfl (infoStepL _ _ _ _)) rfl ⟨?_, below_all HB0.out (Nat.le_refl _) _ _ _ _⟩
              rw [HRS.out]
              exact ⟨none, 0, rfl, .inl rfl, fun b off e => by cases e⟩
            · have HRN : Hid (r = none) := hid (by rw [HRX.out, if_neg (fun h => heq (Option.some.inj h))])
              have u1 : (t != s ++ [10]) = true := by simpa using heq
              have u2 : (t == s ++ [10]) = false := by simpa using heq
              have acat := run_cat s [10] (by have := HS.out; omega) (by simp)
              clear heq HRX HLP
              have CLH : Hid (Calls Tryz.prog 62 #[.agg #[.int .i64 xk, .int .i64 v1, .int .i64 v2, .slice none 0 0]] w8 fun e w' => e = .returned (.tuple #[.string ⟨t.toArray⟩, .bool true]) ∧ Below w8.heap.size w8 w') := hid CL
              clear CL
              go_wp2_with fail
              refine CLH.out.mono ?_
              rintro e w9 ⟨rfl, hb9⟩
              clear CLH
              have HM9 : Hid (Mut (fun q => q = sb ∨ W3.heap.size ≤ q) W3 w9) := hid (HM8.out.trans ((Mut.of_below (F := fun q => w8.heap.size ≤ q) hb9).mono fun q _ e => .inr (Nat.le_trans HM8.out.size e)))
              have HX9 := hid (HX8.out.ext hb9)
              clear hb9 HM8 HX8
              clear y0 y1 y2 y3
              have HB0 : Hid (Below w.heap.size w w9) := hid (HB3.out.trans (HM9.out.below (B := w.heap.size) (by have := HB3.out.size; omega) fun q e => by have := HG3.out; have := HB3.out.size; rcases e with e | e <;> omega))
              have HX0 := hid (HX3.out.mut HM9.out (fun e => by have := HG3.out; rcases e with e | e <;> omega))
              have z0 := HX0.out.c0
              have z1 := HX0.out.c1
              have z2 := HX0.out.c2
              have z3 := HX0.out.c3
              have zf := HX0.out.f
              go_wp2_with fail
              refine bodyPost_ret (v := .tuple #[.agg ([.int .i64 0, .int .i64 0, .int .i64 0, .slice none 0 0] : List Value).toArray, .bool false]) (results_cell_tmp (p := 2) (q := 3) (ty := 62) rfl _ _ w.heap.size [.int .i64 0, .int .i64 0, .int .i64 0, .slice none 0 0] _ rfl (HX0.out.all _ _ _ _).range Tryz.underlying62 rfl (infoStepL _ _ _ _)) rfl ⟨by rw [HRN.out]; rfl, below_all HB0.out (Nat.le_refl _) _ _ _ _⟩
        · have HRN : Hid (r = none) := hid (by rw [HR.out, if_neg (fun e => hlen (by rw [← HN.out]; exact e))])
          have g1 : ((n : Int) != 3) = true := by rw [bne_iff_ne]; omega
          have g2 : (n != 3) = true := by rw [bne_iff_ne]; exact hlen
          have g3 : ((n : Int) == 3) = false := by rw [beq_eq_false_iff_ne]; omega
          clear HR hlen
          have HB0 : Hid (Below w.heap.size w w4) := hid (HB3.out.trans (HM4.out.below (B := w.heap.size) (by have := HB3.out.size; omega) fun q e => by have := HG3.out; have := HB3.out.size; rcases e with e | e <;> omega))
          have HX0 := hid (HX3.out.mut HM4.out (fun e => by have := HG3.out; rcases e with e | e <;> omega))
          have z0 := HX0.out.c0
          have z1 := HX0.out.c1
          have z2 := HX0.out.c2
          have z3 := HX0.out.c3
          have zf := HX0.out.f
          go_wp2_with fail
          refine bodyPost_ret (v := .tuple #[.agg ([.int .i64 0, .int .i64 0, .int .i64 0, .slice none 0 0] : List Value).toArray, .bool false]) (results_cell_tmp (p := 2) (q := 3) (ty := 62) rfl _ _ w.heap.size [.int .i64 0, .int .i64 0, .int .i64 0, .slice none 0 0] _ rfl (HX0.out.all _ _ _ _).range Tryz.underlying62 rfl (infoStepL _ _ _ _)) rfl ⟨by rw [HRN.out]; rfl, below_all HB0.out (Nat.le_refl _) _ _ _ _⟩
      · have CWH : Hid (Calls Tryz.prog 59 #[.int .i64 xk] wr fun e w' => e = .returned (.tuple #[.string ⟨wd.toArray⟩, .string ⟨([98, 120] : List UInt8).toArray⟩]) ∧ Below wr.heap.size wr w') := hid CW
        have HR : Hid (r = if L.length = 4 then (if lineP (readR ⟨xk, word, true, true⟩ L) = some (s ++ [10]) then some (readR ⟨xk, word, true, true⟩ L) else none) else none) := hid HR.out
        clear HH HK hbx CW
        have z0 := HX6.out.c0
        go_wp2_with fail
        refine CWH.out.mono ?_
        rintro e w4 ⟨rfl, hb4⟩
        have HM4 : Hid (Mut (fun q => q = sb ∨ W3.heap.size ≤ q) W3 w4) := hid (hmu.out.trans ((Mut.of_below (F := fun q => wr.heap.size ≤ q) hb4).mono fun q _ e => .inr (Nat.le_trans hmu.out.size e)))
        have HX4 := hid (HX6.out.ext hb4)
        clear hb4 CWH hmu HX6 z0
        by_cases hlen : n = 4
        · subst hlen
          have HRR : Hid (r = if lineP (readR ⟨xk, word, true, true⟩ L) = some (s ++ [10]) then some (readR ⟨xk, word, true, true⟩ L) else none) := hid (by rw [HR.out, if_pos HN.out])
          clear HR
          obtain ⟨t1, ht1⟩ : ∃ t, L[1]? = some t := ⟨L[1]'(by rw [HN.out]; decide), List.getElem?_eq_getElem _⟩
          have CV := hid (refValue_any (s := t1) (w := w4) (by have := HLE.out t1 (List.mem_of_getElem? ht1); have := HS.out; omega))
          obtain ⟨v1, hv1⟩ : ∃ v, valR t1 = v := ⟨_, rfl⟩
          rw [hv1] at CV
          have HV1 : Hid (valR (L.getD 1 []) = v1) := hid (by rw [List.getD_eq_getElem?_getD, ht1]; exact hv1)
          have p1 := HPC.out w4 1 t1 HM4.out ht1
          clear hv1 ht1
          go_wp2_with fail
          refine CV.out.mono ?_
          rintro e w5 ⟨rfl, hb5⟩
          clear CV p1
          have HM5 : Hid (Mut (fun q => q = sb ∨ W3.heap.size ≤ q) W3 w5) := hid (HM4.out.trans ((Mut.of_below (F := fun q => w4.heap.size ≤ q) hb5).mono fun q _ e => .inr (Nat.le_trans HM4.out.size e)))
          have HX5 := hid (HX4.out.ext hb5)
          clear hb5 HM4 HX4
          have z1 := HX5.out.c1
          have zf := HX5.out.f
          go_upto_region 13 with fail
          have HX6 := hid (HX5.out.set1 (.int .i64 v1))
          have HM6 := hid (mut_set HM5.out sb 1 (.int .i64 v1) (.inl rfl))
          obtain ⟨w6, hw6⟩ : ∃ z, w5.setCell ⟨sb, 1, none⟩ (.int .i64 v1) = z := ⟨_, rfl⟩
          rw [hw6] at HX6 HM6
          rw [hw6]
          clear hw6 z1 zf HX5 HM5
          obtain ⟨t2, ht2⟩ : ∃ t, L[2]? = some t := ⟨L[2]'(by rw [HN.out]; decide), List.getElem?_eq_getElem _⟩
          have CV := hid (refValue_any (s := t2) (w := w6) (by have := HLE.out t2 (List.mem_of_getElem? ht2); have := HS.out; omega))
          obtain ⟨v2, hv2⟩ : ∃ v, valR t2 = v := ⟨_, rfl⟩
          rw [hv2] at CV
          have HV2 : Hid (valR (L.getD 2 []) = v2) := hid (by rw [List.getD_eq_getElem?_getD, ht2]; exact hv2)
          have p2 := HPC.out w6 2 t2 HM6.out ht2
          clear hv2 ht2
          go_wp2_with fail
          refine CV.out.mono ?_
          rintro e w7 ⟨rfl, hb7⟩
          clear CV p2
          have HM7 : Hid (Mut (fun q => q = sb ∨ W3.heap.size ≤ q) W3 w7) := hid (HM6.out.trans ((Mut.of_below (F := fun q => w6.heap.size ≤ q) hb7).mono fun q _ e => .inr (Nat.le_trans HM6.out.size e)))
          have HX7 := hid (HX6.out.ext hb7)
          clear hb7 HM6 HX6
          have z2 := HX7.out.c2
          have zf := HX7.out.f
          go_upto_region 15 with fail
          have HX8 := hid (HX7.out.set2 (.int .i64 v2))
          have HM8 := hid (mut_set HM7.out sb 2 (.int .i64 v2) (.inl rfl))
          obtain ⟨w8, hw8⟩ : ∃ z, w7.setCell ⟨sb, 2, none⟩ (.int .i64 v2) = z := ⟨_, rfl⟩
          rw [hw8] at HX8 HM8
          rw [hw8]
          clear hw8 z2 zf HX7 HM7
          obtain ⟨d, hd⟩ : ∃ t, L[3]? = some t := ⟨L[3]'(by rw [HN.out]; decide), List.getElem?_eq_getElem _⟩
          obtain ⟨dl, hdl⟩ : ∃ z, d.length = z := ⟨_, rfl⟩
          have hzd : (⟨d.toArray⟩ : ByteArray).size = dl := by rw [bszP, hdl]
          have HDE : Hid (unhexR ((L.getD (L.length - 1) []).drop 1) = unhexR (d.drop 1)) := hid (by rw [HN.out, show 4 - 1 = 3 from rfl, List.getD_eq_getElem?_getD, hd]; rfl)
          have hdb : dl ≤ 900000 := by have := HLE.out d (List.mem_of_getElem? hd); have := HS.out; omega
          have pd := HPC.out w8 3 d HM8.out hd
          have HDL := hid hdl
          have HSBA : Hid (sb < w8.heap.size ∧ W3.heap.size ≤ w8.heap.size) := hid ⟨HX8.out.lt, HM8.out.size⟩
          clear hd hdl
          go_upto_region 17 with fail
          clear pd
          go_wp2_with fail
          go_loopw [12] (fun i wz => ∃ (j q : Nat) (da : Option Addr) (dc : Nat) (ds : List Nat), i = .int .i64 j ∧ 1 ≤ j ∧ j ≤ dl + 1 ∧ Hid (2 * q + 1 = j) ∧ Hid (ds.length = q) ∧ Hid (unhexR (d.drop 1) = ds ++ unhexR (d.drop j)) ∧ Hid (Bx4 wz sb (.int .i64 xk) (.int .i64 v1) (.int .i64 v2) (.slice da q dc)) ∧ Hid (OwnB wz w8.heap.size (.slice da q dc) ds) ∧ Hid (Mut (fun q => q = sb ∨ W3.heap.size ≤ q) W3 wz) ∧ Hid (w8.heap.size ≤ wz.heap.size)) (fun i _ => dl + 1 - (intOf i).toNat)
          case atStart => exact ⟨1, 0, none, 0, [], rfl, Nat.le_refl _, by omega, hid rfl, hid rfl, hid rfl, HX8, hid (OwnB.nil _ _), HM8, hid (Nat.le_refl _)⟩
          case round =>
            obtain ⟨j, q, da, dc, ds, rfl, hj1, hj, HQJ, HQL, HUN, HXj, HOj, HMj, HSj⟩ := hrel
            rename World => wz
            by_cases hjl : j + 1 < dl
            · obtain ⟨c1, c2, hc1, hc2, hun⟩ := unhexR_drop (d := d) (i := j) (by rw [HDL.out]; exact hjl)
              have UI1 := fun W => str_at hc1 W
              have UI2 := fun W => str_at hc2 W
              rw [show ((j + 1 : Nat) : Int) = (j : Int) + 1 by omega] at UI2
              obtain ⟨x1, hx1⟩ : ∃ x, c1.toNat = x := ⟨_, rfl⟩
              obtain ⟨x2, hx2⟩ : ∃ x, c2.toNat = x := ⟨_, rfl⟩
              rw [digR_n, digR_n, hx1, hx2] at hun
              have hl1 : x1 < 256 := by rw [← hx1]; exact UInt8.toNat_lt c1
              have hl2 : x2 < 256 := by rw [← hx2]; exact UInt8.toNat_lt c2
              rw [hx1] at UI1
              rw [hx2] at UI2
              have CD1 := fun W => refDigit_any x1 hl1 W
              have CD2 := fun W => refDigit_any x2 hl2 W
              obtain ⟨n1, hn1⟩ : ∃ g, digN x1 = g := ⟨_, rfl⟩
              obtain ⟨n2, hn2⟩ : ∃ g, digN x2 = g := ⟨_, rfl⟩
              have e1 := wrap8_16 n1
              have e2 := wrap8_add n1 n2
              rw [hn1] at CD1 hun
              rw [hn2] at CD2 hun
              obtain ⟨M1, hM1⟩ : ∃ g, n1 * 16 % 256 = g := ⟨_, rfl⟩
              obtain ⟨z, hz⟩ : ∃ g, (n1 * 16 + n2) % 256 = g := ⟨_, rfl⟩
              rw [hM1] at e1 e2
              rw [hz] at e2 hun
              have HUJ := hid hun
              have CD1 := hid CD1
              have CD2 := hid CD2
              have e0 : IntKind.i64.wrap ((j : Int) + 1) = (j : Int) + 1 := by rw [IntKind.wrap_i64]; omega
              have d1 : decide ((j : Int) + 1 < (dl : Int)) = true := decide_eq_true (by omega)
              have d2 : decide (j + 1 < dl) = true := decide_eq_true hjl
              have s3 : wz.drew.cell? ⟨sb, 3, none⟩ = some (.slice da q dc) := (HXj.out.ext (Below.refl _ _).drew).c3
              clear hc1 hc2 hun hx1 hx2 hn1 hn2 hM1 hz hl1 hl2
              go_upto_region 20 with fail
              refine wp_region_held_drew (S := fun _ => True) (by kernel_rfl) (trivial) (fun hHeld => ?_)
              refine wpAnyH_take (i := 0) (oi := _) (v := .pointer (some ⟨sb, 3, none⟩)) rfl (by kernel_rfl) (by kernel_rfl) (by kernel_rfl) (fun _ _ _ h => h) (Or.inl ⟨by rfl, ?_⟩) (by assumption) ?_
              · intro W hSw
                try dsimp only at hSw
                go_simp
              try simp only [Act.put, List.getElem_toArray, List.getElem_cons_succ, List.getElem_cons_zero, List.setIfInBounds_toArray, List.set_cons_zero, List.set_cons_succ]
              refine wpAnyH_take (i := 2) (oi := _) (v := .string ⟨d.toArray⟩) rfl (by kernel_rfl) (by kernel_rfl) (by kernel_rfl) (fun _ _ _ h => h) (Or.inl ⟨by rfl, ?_⟩) (by assumption) ?_
              · intro W hSw
                try dsimp only at hSw
                go_simp
              try simp only [Act.put, List.getElem_toArray, List.getElem_cons_succ, List.getElem_cons_zero, List.setIfInBounds_toArray, List.set_cons_zero, List.set_cons_succ]
              refine wpAnyH_take (i := 3) (oi := _) (v := .int .i64 (j : Int)) rfl (by kernel_rfl) (by kernel_rfl) (by kernel_rfl) (fun _ _ _ h => h) (Or.inl ⟨by rfl, ?_⟩) (by assumption) ?_
              · intro W hSw
                try dsimp only at hSw
                go_simp
              try simp only [Act.put, List.getElem_toArray, List.getElem_cons_succ, List.getElem_cons_zero, List.setIfInBounds_toArray, List.set_cons_zero, List.set_cons_succ]
              refine wpAnyH_take (i := 4) (oi := _) (v := .int .u8 (x1 : Int)) rfl (by kernel_rfl) (by kernel_rfl) (by kernel_rfl) (fun _ _ _ h => h) (Or.inl ⟨by rfl, ?_⟩) (by assumption) ?_
              · intro W hSw
                try dsimp only at hSw
                go_simp
              try simp only [Act.put, List.getElem_toArray, List.getElem_cons_succ, List.getElem_cons_zero, List.setIfInBounds_toArray, List.set_cons_zero, List.set_cons_succ]
              refine wpAnyH_take (i := 7) (oi := _) (v := .string ⟨d.toArray⟩) rfl (by kernel_rfl) (by kernel_rfl) (by kernel_rfl) (fun _ _ _ h => h) (Or.inl ⟨by rfl, ?_⟩) (by assumption) ?_
              · intro W hSw
                try dsimp only at hSw
                go_simp
              try simp only [Act.put, List.getElem_toArray, List.getElem_cons_succ, List.getElem_cons_zero, List.setIfInBounds_toArray, List.set_cons_zero, List.set_cons_succ]
              refine wpAnyH_take (i := 8) (oi := _) (v := .int .i64 (j : Int)) rfl (by kernel_rfl) (by kernel_rfl) (by kernel_rfl) (fun _ _ _ h => h) (Or.inl ⟨by rfl, ?_⟩) (by assumption) ?_
              · intro W hSw
                try dsimp only at hSw
                go_simp
              try simp only [Act.put, List.getElem_toArray, List.getElem_cons_succ, List.getElem_cons_zero, List.setIfInBounds_toArray, List.set_cons_zero, List.set_cons_succ]
              refine wpAnyH_take (i := 9) (oi := _) (v := .int .i64 ((j : Int) + 1)) rfl (by kernel_rfl) (by kernel_rfl) (by kernel_rfl) (fun _ _ _ h => h) (Or.inl ⟨by rfl, ?_⟩) (by assumption) ?_
              · intro W hSw
                try dsimp only at hSw
                go_simp
              try simp only [Act.put, List.getElem_toArray, List.getElem_cons_succ, List.getElem_cons_zero, List.setIfInBounds_toArray, List.set_cons_zero, List.set_cons_succ]
              refine wpAnyH_take (i := 10) (oi := _) (v := .int .u8 (x2 : Int)) rfl (by kernel_rfl) (by kernel_rfl) (by kernel_rfl) (fun _ _ _ h => h) (Or.inl ⟨by rfl, ?_⟩) (by assumption) ?_
              · intro W hSw
                try dsimp only at hSw
                go_simp
              try simp only [Act.put, List.getElem_toArray, List.getElem_cons_succ, List.getElem_cons_zero, List.setIfInBounds_toArray, List.set_cons_zero, List.set_cons_succ]
              refine wpAnyH_ready (rs := [1, 5]) (by kernel_rfl) (by simp) ?_
              refine AllReadyH.cons (o := _) rfl (fun K hK => ?_) (AllReadyH.cons (o := _) rfl (fun K hK => ?_) AllReadyH.nil)
              · go_simp
                refine hK.out _ _ (trivial) (fun hHeld => ?_)
                clear hK K
                try simp only [Act.put, List.getElem_toArray, List.getElem_cons_succ, List.getElem_cons_zero, List.setIfInBounds_toArray, List.set_cons_zero, List.set_cons_succ]
                refine wpAnyH_ready (rs := [5]) (by kernel_rfl) (by simp) ?_
                refine AllReadyH.cons (o := _) rfl (fun K hK => ?_) AllReadyH.nil
                go_simp
                refine (CD1.out _).mono ?_
                rintro e wa ⟨rfl, rfl⟩
                refine hK.out _ _ (trivial) (fun hHeld => ?_)
                clear hK K
                try simp only [Act.put, List.getElem_toArray, List.getElem_cons_succ, List.getElem_cons_zero, List.setIfInBounds_toArray, List.set_cons_zero, List.set_cons_succ]
                refine wpAnyH_take (i := 6) (oi := _) (v := .int .u8 (M1 : Int)) rfl (by kernel_rfl) (by kernel_rfl) (by kernel_rfl) (fun _ _ _ h => h) (Or.inl ⟨by rfl, ?_⟩) (by assumption) ?_
                · intro W hSw
                  try dsimp only at hSw
                  go_simp
                try simp only [Act.put, List.getElem_toArray, List.getElem_cons_succ, List.getElem_cons_zero, List.setIfInBounds_toArray, List.set_cons_zero, List.set_cons_succ]
                refine wpAnyH_ready (rs := [11]) (by kernel_rfl) (by simp) ?_
                refine AllReadyH.cons (o := _) rfl (fun K hK => ?_) AllReadyH.nil
                go_simp
                refine (CD2.out _).mono ?_
                rintro e wa ⟨rfl, rfl⟩
                refine hK.out _ _ (trivial) (fun hHeld => ?_)
                clear hK K
                try simp only [Act.put, List.getElem_toArray, List.getElem_cons_succ, List.getElem_cons_zero, List.setIfInBounds_toArray, List.set_cons_zero, List.set_cons_succ]
                refine wpAnyH_take (i := 12) (oi := _) (v := .int .u8 (z : Int)) rfl (by kernel_rfl) (by kernel_rfl) (by kernel_rfl) (fun _ _ _ h => h) (Or.inl ⟨by rfl, ?_⟩) (by assumption) ?_
                · intro W hSw
                  try dsimp only at hSw
                  go_simp
                try simp only [Act.put, List.getElem_toArray, List.getElem_cons_succ, List.getElem_cons_zero, List.setIfInBounds_toArray, List.set_cons_zero, List.set_cons_succ]
                refine wpAnyH_ready (rs := [13]) (by kernel_rfl) (by simp) ?_
                refine AllReadyH.cons (o := _) rfl (fun K hK => ?_) AllReadyH.nil
                go_simp
                obtain ⟨wb, hwb⟩ : ∃ g, (wz.alloc (.cells #[.int .u8 (z : Int)] 5)).drew = g := ⟨_, rfl⟩
                try rw [e2]
                rw [hwb]
                have hbb : Below wz.heap.size wz wb := by rw [← hwb]; exact ((Below.refl _ _).alloc (Nat.le_refl _) _).drew
                have HRb : Hid (ByteRow wb (some ⟨wz.heap.size, 0, none⟩) [z]) := hid (by rw [← hwb]; exact (ByteRow.one wz z).ext (Below.refl _ _).drew)
                have HXb := hid (HXj.out.ext hbb)
                have HOb := hid (HOj.out.ext hbb)
                have HMb : Hid (Mut (fun q => q = sb ∨ W3.heap.size ≤ q) W3 wb) := hid (HMj.out.trans ((Mut.of_below (F := fun g => wz.heap.size ≤ g) hbb).mono fun g _ e => .inr (Nat.le_trans HMj.out.size e)))
                have HSb : Hid (w8.heap.size ≤ wb.heap.size) := hid (by have h1 := HSj.out; have h2 := hbb.size; omega)
                have b3 : wb.cell? ⟨sb, 3, none⟩ = some (.slice da q dc) := HXb.out.c3
                clear hwb hbb
                refine hK.out _ _ (trivial) (fun hHeld => ?_)
                clear hK K
                try simp only [Act.put, List.getElem_toArray, List.getElem_cons_succ, List.getElem_cons_zero, List.setIfInBounds_toArray, List.set_cons_zero, List.set_cons_succ]
                refine wpAnyH_ready (rs := [14]) (by kernel_rfl) (by simp) ?_
                refine AllReadyH.cons (o := _) rfl (fun K hK => ?_) AllReadyH.nil
                refine step_appendBz (n := 1) (base := w8.heap.size) (by rfl) HOb.out HRb.out (hid rfl) (by have := HQL.out; have := HQJ.out; omega) HSb.out rfl rfl rfl ?_
                intro v8 wc hown8 hg8
                have hmg := grown_mutD hg8
                obtain ⟨ua, uc, hu, -, -⟩ := id hown8.row
                have hul : (ds ++ [z]).length = q + 1 := by have := HQL.out; simp; omega
                rw [hul] at hu
                subst hu
                have hog : ∀ g, (Value.slice da q dc).ownBlock = some g → w8.heap.size ≤ g := fun g e => (HOb.out.blkD e).1
                have HXc := hid (HXb.out.mut hmg (fun e => by have h1 := hog _ e; have h2 := HSBA.out.1; omega))
                have HMc : Hid (Mut (fun q => q = sb ∨ W3.heap.size ≤ q) W3 wc) := hid (HMb.out.trans (hmg.mono fun g _ e => .inr (by have h1 := hog _ e; have h2 := HSBA.out.2; omega)))
                have HSc : Hid (w8.heap.size ≤ wc.heap.size) := hid (Nat.le_trans HSb.out hmg.size)
                have HOc := hid hown8
                have c3 : wc.cell? ⟨sb, 3, none⟩ = some (.slice da q dc) := HXc.out.c3
                have fzc := HXc.out.f
                clear hown8 hg8 hmg hul hog
                refine hK.out _ _ (trivial) (fun hHeld => ?_)
                clear hK K
                try simp only [Act.put, List.getElem_toArray, List.getElem_cons_succ, List.getElem_cons_zero, List.setIfInBounds_toArray, List.set_cons_zero, List.set_cons_succ]
                refine wpAnyH_ready (rs := [15]) (by kernel_rfl) (by simp) ?_
                refine AllReadyH.cons (o := _) rfl (fun K hK => ?_) AllReadyH.nil
                go_simp
                refine hK.out _ _ (trivial) (fun hHeld => ?_)
                clear hK K
                try simp only [Act.put, List.getElem_toArray, List.getElem_cons_succ, List.getElem_cons_zero, List.setIfInBounds_toArray, List.set_cons_zero, List.set_cons_succ]
                refine wpAnyH_ready (rs := [16]) (by kernel_rfl) (by simp) ?_
                refine AllReadyH.cons (o := _) rfl (fun K hK => ?_) AllReadyH.nil
                go_simp
                refine hK.out _ _ (trivial) (fun hHeld => ?_)
                clear hK K
                try simp only [Act.put, List.getElem_toArray, List.getElem_cons_succ, List.getElem_cons_zero, List.setIfInBounds_toArray, List.set_cons_zero, List.set_cons_succ]
                refine wpAnyH_done (by kernel_rfl) ?_ _
                obtain ⟨wd2, hwd⟩ : ∃ g, wc.setCell ⟨sb, 3, none⟩ (.slice ua (q + 1) uc) = g := ⟨_, rfl⟩
                have HXd := hid (HXc.out.set3 (.slice ua (q + 1) uc))
                have HMd := hid (mut_set HMc.out sb 3 (.slice ua (q + 1) uc) (.inl rfl))
                have HOd := hid (OwnB.mutD HOc.out (mut1 (w := wc) (s := sb) (i := 3) (v := .slice ua (q + 1) uc)) (fun g e1 e2 => by have h1 := (HOc.out.blkD e1).1; have h2 := HSBA.out.1; omega))
                have HSd : Hid (w8.heap.size ≤ (wc.setCell ⟨sb, 3, none⟩ (.slice ua (q + 1) uc)).heap.size) := hid (by rw [World.size_setCell]; exact HSc.out)
                rw [hwd] at HXd HMd HOd HSd
                clear HXb HMb HOb HRb HSb b3 c3 fzc HXc HMc HSc HOc
                go_wp2_with fail
                try rw [hwd]
                go_roundw
                case rel => exact ⟨j + 2, q + 1, ua, uc, ds ++ [z], by go_num, by omega, by omega, hid (by have := HQJ.out; omega), hid (by have := HQL.out; simp; omega), hid (by rw [HUN.out, HUJ.out, List.append_assoc]; rfl), HXd, HOd, HMd, HSd⟩
                case measure => simp [intOf]; omega
              · go_simp
                refine (CD1.out _).mono ?_
                rintro e wa ⟨rfl, rfl⟩
                refine hK.out _ _ (trivial) (fun hHeld => ?_)
                clear hK K
                try simp only [Act.put, List.getElem_toArray, List.getElem_cons_succ, List.getElem_cons_zero, List.setIfInBounds_toArray, List.set_cons_zero, List.set_cons_succ]
                refine wpAnyH_take (i := 6) (oi := _) (v := .int .u8 (M1 : Int)) rfl (by kernel_rfl) (by kernel_rfl) (by kernel_rfl) (fun _ _ _ h => h) (Or.inl ⟨by rfl, ?_⟩) (by assumption) ?_
                · intro W hSw
                  try dsimp only at hSw
                  go_simp
                try simp only [Act.put, List.getElem_toArray, List.getElem_cons_succ, List.getElem_cons_zero, List.setIfInBounds_toArray, List.set_cons_zero, List.set_cons_succ]
                refine wpAnyH_ready (rs := [1, 11]) (by kernel_rfl) (by simp) ?_
                refine AllReadyH.cons (o := _) rfl (fun K hK => ?_) (AllReadyH.cons (o := _) rfl (fun K hK => ?_) AllReadyH.nil)
                · go_simp
                  refine hK.out _ _ (trivial) (fun hHeld => ?_)
                  clear hK K
                  try simp only [Act.put, List.getElem_toArray, List.getElem_cons_succ, List.getElem_cons_zero, List.setIfInBounds_toArray, List.set_cons_zero, List.set_cons_succ]
                  refine wpAnyH_ready (rs := [11]) (by kernel_rfl) (by simp) ?_
                  refine AllReadyH.cons (o := _) rfl (fun K hK => ?_) AllReadyH.nil
                  go_simp
                  refine (CD2.out _).mono ?_
                  rintro e wa ⟨rfl, rfl⟩
                  refine hK.out _ _ (trivial) (fun hHeld => ?_)
                  clear hK K
                  try simp only [Act.put, List.getElem_toArray, List.getElem_cons_succ, List.getElem_cons_zero, List.setIfInBounds_toArray, List.set_cons_zero, List.set_cons_succ]
                  refine wpAnyH_take (i := 12) (oi := _) (v := .int .u8 (z : Int)) rfl (by kernel_rfl) (by kernel_rfl) (by kernel_rfl) (fun _ _ _ h => h) (Or.inl ⟨by rfl, ?_⟩) (by assumption) ?_
                  · intro W hSw
                    try dsimp only at hSw
                    go_simp
                  try simp only [Act.put, List.getElem_toArray, List.getElem_cons_succ, List.getElem_cons_zero, List.setIfInBounds_toArray, List.set_cons_zero, List.set_cons_succ]
                  refine wpAnyH_ready (rs := [13]) (by kernel_rfl) (by simp) ?_
                  refine AllReadyH.cons (o := _) rfl (fun K hK => ?_) AllReadyH.nil
                  go_simp
                  obtain ⟨wb, hwb⟩ : ∃ g, (wz.alloc (.cells #[.int .u8 (z : Int)] 5)).drew = g := ⟨_, rfl⟩
                  try rw [e2]
                  rw [hwb]
                  have hbb : Below wz.heap.size wz wb := by rw [← hwb]; exact ((Below.refl _ _).alloc (Nat.le_refl _) _).drew
                  have HRb : Hid (ByteRow wb (some ⟨wz.heap.size, 0, none⟩) [z]) := hid (by rw [← hwb]; exact (ByteRow.one wz z).ext (Below.refl _ _).drew)
                  have HXb := hid (HXj.out.ext hbb)
                  have HOb := hid (HOj.out.ext hbb)
                  have HMb : Hid (Mut (fun q => q = sb ∨ W3.heap.size ≤ q) W3 wb) := hid (HMj.out.trans ((Mut.of_below (F := fun g => wz.heap.size ≤ g) hbb).mono fun g _ e => .inr (Nat.le_trans HMj.out.size e)))
                  have HSb : Hid (w8.heap.size ≤ wb.heap.size) := hid (by have h1 := HSj.out; have h2 := hbb.size; omega)
                  have b3 : wb.cell? ⟨sb, 3, none⟩ = some (.slice da q dc) := HXb.out.c3
                  clear hwb hbb
                  refine hK.out _ _ (trivial) (fun hHeld => ?_)
                  clear hK K
                  try simp only [Act.put, List.getElem_toArray, List.getElem_cons_succ, List.getElem_cons_zero, List.setIfInBounds_toArray, List.set_cons_zero, List.set_cons_succ]
                  refine wpAnyH_ready (rs := [14]) (by kernel_rfl) (by simp) ?_
                  refine AllReadyH.cons (o := _) rfl (fun K hK => ?_) AllReadyH.nil
                  refine step_appendBz (n := 1) (base := w8.heap.size) (by rfl) HOb.out HRb.out (hid rfl) (by have := HQL.out; have := HQJ.out; omega) HSb.out rfl rfl rfl ?_
                  intro v8 wc hown8 hg8
                  have hmg := grown_mutD hg8
                  obtain ⟨ua, uc, hu, -, -⟩ := id hown8.row
                  have hul : (ds ++ [z]).length = q + 1 := by have := HQL.out; simp; omega
                  rw [hul] at hu
                  subst hu
                  have hog : ∀ g, (Value.slice da q dc).ownBlock = some g → w8.heap.size ≤ g := fun g e => (HOb.out.blkD e).1
                  have HXc := hid (HXb.out.mut hmg (fun e => by have h1 := hog _ e; have h2 := HSBA.out.1; omega))
                  have HMc : Hid (Mut (fun q => q = sb ∨ W3.heap.size ≤ q) W3 wc) := hid (HMb.out.trans (hmg.mono fun g _ e => .inr (by have h1 := hog _ e; have h2 := HSBA.out.2; omega)))
                  have HSc : Hid (w8.heap.size ≤ wc.heap.size) := hid (Nat.le_trans HSb.out hmg.size)
                  have HOc := hid hown8
                  have c3 : wc.cell? ⟨sb, 3, none⟩ = some (.slice da q dc) := HXc.out.c3
                  have fzc := HXc.out.f
                  clear hown8 hg8 hmg hul hog
                  refine hK.out _ _ (trivial) (fun hHeld => ?_)
                  clear hK K
                  try simp only [Act.put, List.getElem_toArray, List.getElem_cons_succ, List.getElem_cons_zero, List.setIfInBounds_toArray, List.set_cons_zero, List.set_cons_succ]
                  refine wpAnyH_ready (rs := [15]) (by kernel_rfl) (by simp) ?_
                  refine AllReadyH.cons (o := _) rfl (fun K hK => ?_) AllReadyH.nil
                  go_simp
                  refine hK.out _ _ (trivial) (fun hHeld => ?_)
                  clear hK K
                  try simp only [Act.put, List.getElem_toArray, List.getElem_cons_succ, List.getElem_cons_zero, List.setIfInBounds_toArray, List.set_cons_zero, List.set_cons_succ]
                  refine wpAnyH_ready (rs := [16]) (by kernel_rfl) (by simp) ?_
                  refine AllReadyH.cons (o := _) rfl (fun K hK => ?_) AllReadyH.nil
                  go_simp
                  refine hK.out _ _ (trivial) (fun hHeld => ?_)
                  clear hK K
                  try simp only [Act.put, List.getElem_toArray, List.getElem_cons_succ, List.getElem_cons_zero, List.setIfInBounds_toArray, List.set_cons_zero, List.set_cons_succ]
                  refine wpAnyH_done (by kernel_rfl) ?_ _
                  obtain ⟨wd2, hwd⟩ : ∃ g, wc.setCell ⟨sb, 3, none⟩ (.slice ua (q + 1) uc) = g := ⟨_, rfl⟩
                  have HXd := hid (HXc.out.set3 (.slice ua (q + 1) uc))
                  have HMd := hid (mut_set HMc.out sb 3 (.slice ua (q + 1) uc) (.inl rfl))
                  have HOd := hid (OwnB.mutD HOc.out (mut1 (w := wc) (s := sb) (i := 3) (v := .slice ua (q + 1) uc)) (fun g e1 e2 => by have h1 := (HOc.out.blkD e1).1; have h2 := HSBA.out.1; omega))
                  have HSd : Hid (w8.heap.size ≤ (wc.setCell ⟨sb, 3, none⟩ (.slice ua (q + 1) uc)).heap.size) := hid (by rw [World.size_setCell]; exact HSc.out)
                  rw [hwd] at HXd HMd HOd HSd
                  clear HXb HMb HOb HRb HSb b3 c3 fzc HXc HMc HSc HOc
                  go_wp2_with fail
                  try rw [hwd]
                  go_roundw
                  case rel => exact ⟨j + 2, q + 1, ua, uc, ds ++ [z], by go_num, by omega, by omega, hid (by have := HQJ.out; omega), hid (by have := HQL.out; simp; omega), hid (by rw [HUN.out, HUJ.out, List.append_assoc]; rfl), HXd, HOd, HMd, HSd⟩
                  case measure => simp [intOf]; omega
                · go_simp
                  refine (CD2.out _).mono ?_
                  rintro e wa ⟨rfl, rfl⟩
                  refine hK.out _ _ (trivial) (fun hHeld => ?_)
                  clear hK K
                  try simp only [Act.put, List.getElem_toArray, List.getElem_cons_succ, List.getElem_cons_zero, List.setIfInBounds_toArray, List.set_cons_zero, List.set_cons_succ]
                  refine wpAnyH_take (i := 12) (oi := _) (v := .int .u8 (z : Int)) rfl (by kernel_rfl) (by kernel_rfl) (by kernel_rfl) (fun _ _ _ h => h) (Or.inl ⟨by rfl, ?_⟩) (by assumption) ?_
                  · intro W hSw
                    try dsimp only at hSw
                    go_simp
                  try simp only [Act.put, List.getElem_toArray, List.getElem_cons_succ, List.getElem_cons_zero, List.setIfInBounds_toArray, List.set_cons_zero, List.set_cons_succ]
                  refine wpAnyH_ready (rs := [1, 13]) (by kernel_rfl) (by simp) ?_
                  refine AllReadyH.cons (o := _) rfl (fun K hK => ?_) (AllReadyH.cons (o := _) rfl (fun K hK => ?_) AllReadyH.nil)
                  · go_simp
                    refine hK.out _ _ (trivial) (fun hHeld => ?_)
                    clear hK K
                    try simp only [Act.put, List.getElem_toArray, List.getElem_cons_succ, List.getElem_cons_zero, List.setIfInBounds_toArray, List.set_cons_zero, List.set_cons_succ]
                    refine wpAnyH_ready (rs := [13]) (by kernel_rfl) (by simp) ?_
                    refine AllReadyH.cons (o := _) rfl (fun K hK => ?_) AllReadyH.nil
                    go_simp
                    obtain ⟨wb, hwb⟩ : ∃ g, (wz.alloc (.cells #[.int .u8 (z : Int)] 5)).drew = g := ⟨_, rfl⟩
                    try rw [e2]
                    rw [hwb]
                    have hbb : Below wz.heap.size wz wb := by rw [← hwb]; exact ((Below.refl _ _).alloc (Nat.le_refl _) _).drew
                    have HRb : Hid (ByteRow wb (some ⟨wz.heap.size, 0, none⟩) [z]) := hid (by rw [← hwb]; exact (ByteRow.one wz z).ext (Below.refl _ _).drew)
                    have HXb := hid (HXj.out.ext hbb)
                    have HOb := hid (HOj.out.ext hbb)
                    have HMb : Hid (Mut (fun q => q = sb ∨ W3.heap.size ≤ q) W3 wb) := hid (HMj.out.trans ((Mut.of_below (F := fun g => wz.heap.size ≤ g) hbb).mono fun g _ e => .inr (Nat.le_trans HMj.out.size e)))
                    have HSb : Hid (w8.heap.size ≤ wb.heap.size) := hid (by have h1 := HSj.out; have h2 := hbb.size; omega)
                    have b3 : wb.cell? ⟨sb, 3, none⟩ = some (.slice da q dc) := HXb.out.c3
                    clear hwb hbb
                    refine hK.out _ _ (trivial) (fun hHeld => ?_)
                    clear hK K
                    try simp only [Act.put, List.getElem_toArray, List.getElem_cons_succ, List.getElem_cons_zero, List.setIfInBounds_toArray, List.set_cons_zero, List.set_cons_succ]
                    refine wpAnyH_ready (rs := [14]) (by kernel_rfl) (by simp) ?_
                    refine AllReadyH.cons (o := _) rfl (fun K hK => ?_) AllReadyH.nil
                    refine step_appendBz (n := 1) (base := w8.heap.size) (by rfl) HOb.out HRb.out (hid rfl) (by have := HQL.out; have := HQJ.out; omega) HSb.out rfl rfl rfl ?_
                    intro v8 wc hown8 hg8
                    have hmg := grown_mutD hg8
                    obtain ⟨ua, uc, hu, -, -⟩ := id hown8.row
                    have hul : (ds ++ [z]).length = q + 1 := by have := HQL.out; simp; omega
                    rw [hul] at hu
                    subst hu
                    have hog : ∀ g, (Value.slice da q dc).ownBlock = some g → w8.heap.size ≤ g := fun g e => (HOb.out.blkD e).1
                    have HXc := hid (HXb.out.mut hmg (fun e => by have h1 := hog _ e; have h2 := HSBA.out.1; omega))
                    have HMc : Hid (Mut (fun q => q = sb ∨ W3.heap.size ≤ q) W3 wc) := hid (HMb.out.trans (hmg.mono fun g _ e => .inr (by have h1 := hog _ e; have h2 := HSBA.out.2; omega)))
                    have HSc : Hid (w8.heap.size ≤ wc.heap.size) := hid (Nat.le_trans HSb.out hmg.size)
                    have HOc := hid hown8
                    have c3 : wc.cell? ⟨sb, 3, none⟩ = some (.slice da q dc) := HXc.out.c3
                    have fzc := HXc.out.f
                    clear hown8 hg8 hmg hul hog
                    refine hK.out _ _ (trivial) (fun hHeld => ?_)
                    clear hK K
                    try simp only [Act.put, List.getElem_toArray, List.getElem_cons_succ, List.getElem_cons_zero, List.setIfInBounds_toArray, List.set_cons_zero, List.set_cons_succ]
                    refine wpAnyH_ready (rs := [15]) (by kernel_rfl) (by simp) ?_
                    refine AllReadyH.cons (o := _) rfl (fun K hK => ?_) AllReadyH.nil
                    go_simp
                    refine hK.out _ _ (trivial) (fun hHeld => ?_)
                    clear hK K
                    try simp only [Act.put, List.getElem_toArray, List.getElem_cons_succ, List.getElem_cons_zero, List.setIfInBounds_toArray, List.set_cons_zero, List.set_cons_succ]
                    refine wpAnyH_ready (rs := [16]) (by kernel_rfl) (by simp) ?_
                    refine AllReadyH.cons (o := _) rfl (fun K hK => ?_) AllReadyH.nil
                    go_simp
                    refine hK.out _ _ (trivial) (fun hHeld => ?_)
                    clear hK K
                    try simp only [Act.put, List.getElem_toArray, List.getElem_cons_succ, List.getElem_cons_zero, List.setIfInBounds_toArray, List.set_cons_zero, List.set_cons_succ]
                    refine wpAnyH_done (by kernel_rfl) ?_ _
                    obtain ⟨wd2, hwd⟩ : ∃ g, wc.setCell ⟨sb, 3, none⟩ (.slice ua (q + 1) uc) = g := ⟨_, rfl⟩
                    have HXd := hid (HXc.out.set3 (.slice ua (q + 1) uc))
                    have HMd := hid (mut_set HMc.out sb 3 (.slice ua (q + 1) uc) (.inl rfl))
                    have HOd := hid (OwnB.mutD HOc.out (mut1 (w := wc) (s := sb) (i := 3) (v := .slice ua (q + 1) uc)) (fun g e1 e2 => by have h1 := (HOc.out.blkD e1).1; have h2 := HSBA.out.1; omega))
                    have HSd : Hid (w8.heap.size ≤ (wc.setCell ⟨sb, 3, none⟩ (.slice ua (q + 1) uc)).heap.size) := hid (by rw [World.size_setCell]; exact HSc.out)
                    rw [hwd] at HXd HMd HOd HSd
                    clear HXb HMb HOb HRb HSb b3 c3 fzc HXc HMc HSc HOc
                    go_wp2_with fail
                    try rw [hwd]
                    go_roundw
                    case rel => exact ⟨j + 2, q + 1, ua, uc, ds ++ [z], by go_num, by omega, by omega, hid (by have := HQJ.out; omega), hid (by have := HQL.out; simp; omega), hid (by rw [HUN.out, HUJ.out, List.append_assoc]; rfl), HXd, HOd, HMd, HSd⟩
                    case measure => simp [intOf]; omega
                  · go_simp
                    obtain ⟨wb, hwb⟩ : ∃ g, (wz.alloc (.cells #[.int .u8 (z : Int)] 5)).drew = g := ⟨_, rfl⟩
                    try rw [e2]
                    rw [hwb]
                    have hbb : Below wz.heap.size wz wb := by rw [← hwb]; exact ((Below.refl _ _).alloc (Nat.le_refl _) _).drew
                    have HRb : Hid (ByteRow wb (some ⟨wz.heap.size, 0, none⟩) [z]) := hid (by rw [← hwb]; exact (ByteRow.one wz z).ext (Below.refl _ _).drew)
                    have HXb := hid (HXj.out.ext hbb)
                    have HOb := hid (HOj.out.ext hbb)
                    have HMb : Hid (Mut (fun q => q = sb ∨ W3.heap.size ≤ q) W3 wb) := hid (HMj.out.trans ((Mut.of_below (F := fun g => wz.heap.size ≤ g) hbb).mono fun g _ e => .inr (Nat.le_trans HMj.out.size e)))
                    have HSb : Hid (w8.heap.size ≤ wb.heap.size) := hid (by have h1 := HSj.out; have h2 := hbb.size; omega)
                    have b3 : wb.cell? ⟨sb, 3, none⟩ = some (.slice da q dc) := HXb.out.c3
                    clear hwb hbb
                    refine hK.out _ _ (trivial) (fun hHeld => ?_)
                    clear hK K
                    try simp only [Act.put, List.getElem_toArray, List.getElem_cons_succ, List.getElem_cons_zero, List.setIfInBounds_toArray, List.set_cons_zero, List.set_cons_succ]
                    refine wpAnyH_ready (rs := [1]) (by kernel_rfl) (by simp) ?_
                    refine AllReadyH.cons (o := _) rfl (fun K hK => ?_) AllReadyH.nil
                    go_simp
                    refine hK.out _ _ (trivial) (fun hHeld => ?_)
                    clear hK K
                    try simp only [Act.put, List.getElem_toArray, List.getElem_cons_succ, List.getElem_cons_zero, List.setIfInBounds_toArray, List.set_cons_zero, List.set_cons_succ]
                    refine wpAnyH_ready (rs := [14]) (by kernel_rfl) (by simp) ?_
                    refine AllReadyH.cons (o := _) rfl (fun K hK => ?_) AllReadyH.nil
                    refine step_appendBz (n := 1) (base := w8.heap.size) (by rfl) HOb.out HRb.out (hid rfl) (by have := HQL.out; have := HQJ.out; omega) HSb.out rfl rfl rfl ?_
                    intro v8 wc hown8 hg8
                    have hmg := grown_mutD hg8
                    obtain ⟨ua, uc, hu, -, -⟩ := id hown8.row
                    have hul : (ds ++ [z]).length = q + 1 := by have := HQL.out; simp; omega
                    rw [hul] at hu
                    subst hu
                    have hog : ∀ g, (Value.slice da q dc).ownBlock = some g → w8.heap.size ≤ g := fun g e => (HOb.out.blkD e).1
                    have HXc := hid (HXb.out.mut hmg (fun e => by have h1 := hog _ e; have h2 := HSBA.out.1; omega))
                    have HMc : Hid (Mut (fun q => q = sb ∨ W3.heap.size ≤ q) W3 wc) := hid (HMb.out.trans (hmg.mono fun g _ e => .inr (by have h1 := hog _ e; have h2 := HSBA.out.2; omega)))
                    have HSc : Hid (w8.heap.size ≤ wc.heap.size) := hid (Nat.le_trans HSb.out hmg.size)
                    have HOc := hid hown8
                    have c3 : wc.cell? ⟨sb, 3, none⟩ = some (.slice da q dc) := HXc.out.c3
                    have fzc := HXc.out.f
                    clear hown8 hg8 hmg hul hog
                    refine hK.out _ _ (trivial) (fun hHeld => ?_)
                    clear hK K
                    try simp only [Act.put, List.getElem_toArray, List.getElem_cons_succ, List.getElem_cons_zero, List.setIfInBounds_toArray, List.set_cons_zero, List.set_cons_succ]
                    refine wpAnyH_ready (rs := [15]) (by kernel_rfl) (by simp) ?_
                    refine AllReadyH.cons (o := _) rfl (fun K hK => ?_) AllReadyH.nil
                    go_simp
                    refine hK.out _ _ (trivial) (fun hHeld => ?_)
                    clear hK K
                    try simp only [Act.put, List.getElem_toArray, List.getElem_cons_succ, List.getElem_cons_zero, List.setIfInBounds_toArray, List.set_cons_zero, List.set_cons_succ]
                    refine wpAnyH_ready (rs := [16]) (by kernel_rfl) (by simp) ?_
                    refine AllReadyH.cons (o := _) rfl (fun K hK => ?_) AllReadyH.nil
                    go_simp
                    refine hK.out _ _ (trivial) (fun hHeld => ?_)
                    clear hK K
                    try simp only [Act.put, List.getElem_toArray, List.getElem_cons_succ, List.getElem_cons_zero, List.setIfInBounds_toArray, List.set_cons_zero, List.set_cons_succ]
                    refine wpAnyH_done (by kernel_rfl) ?_ _
                    obtain ⟨wd2, hwd⟩ : ∃ g, wc.setCell ⟨sb, 3, none⟩ (.slice ua (q + 1) uc) = g := ⟨_, rfl⟩
                    have HXd := hid (HXc.out.set3 (.slice ua (q + 1) uc))
                    have HMd := hid (mut_set HMc.out sb 3 (.slice ua (q + 1) uc) (.inl rfl))
                    have HOd := hid (OwnB.mutD HOc.out (mut1 (w := wc) (s := sb) (i := 3) (v := .slice ua (q + 1) uc)) (fun g e1 e2 => by have h1 := (HOc.out.blkD e1).1; have h2 := HSBA.out.1; omega))
                    have HSd : Hid (w8.heap.size ≤ (wc.setCell ⟨sb, 3, none⟩ (.slice ua (q + 1) uc)).heap.size) := hid (by rw [World.size_setCell]; exact HSc.out)
                    rw [hwd] at HXd HMd HOd HSd
                    clear HXb HMb HOb HRb HSb b3 c3 fzc HXc HMc HSc HOc
                    go_wp2_with fail
                    try rw [hwd]
                    go_roundw
                    case rel => exact ⟨j + 2, q + 1, ua, uc, ds ++ [z], by go_num, by omega, by omega, hid (by have := HQJ.out; omega), hid (by have := HQL.out; simp; omega), hid (by rw [HUN.out, HUJ.out, List.append_assoc]; rfl), HXd, HOd, HMd, HSd⟩
                    case measure => simp [intOf]; omega
            · have d1 : decide ((j : Int) + 1 < (dl : Int)) = false := decide_eq_false (by omega)
              have d2 : decide (j + 1 < dl) = false := decide_eq_false (by omega)
              have e0 : IntKind.i64.wrap ((j : Int) + 1) = (j : Int) + 1 := by rw [IntKind.wrap_i64]; omega
              have HDD : Hid (unhexR ((L.getD (L.length - 1) []).drop 1) = ds) := hid (by rw [HDE.out, HUN.out, unhexR_end (i := j) (by rw [HDL.out]; omega), List.append_nil])
              obtain ⟨ua, uc, hu, hrw, -⟩ := id HOj.out.row
              injection hu with hu1 hu2 hu3
              have HRW : Hid (ByteRow wz da ds) := hid (by rw [hu1]; exact hrw)
              have HDG : Hid (∀ b off, da = some ⟨b, off, none⟩ → w.heap.size < b ∧ b < wz.heap.size) := hid fun b off e => by
                have h1 : w8.heap.size ≤ b ∧ b < wz.heap.size := HOj.out.blkD (by rw [e]; rfl)
                have h2 := HSBA.out.2
                have h3 := HG3.out
                clear hj1 hj HQJ HQL d1 d2 e0
                exact ⟨by omega, h1.2⟩
              rename World => w30
              have HX30 := HXj
              have HM30 := HMj
              clear hu1 hu2 hu3 hrw HXj HMj HOj HUN HDE
              have HEX : Hid (readR ⟨xk, word, true, true⟩ L = ⟨xk, v1, v2, ds⟩) := hid (by
                show (⟨xk, valR (L.getD 1 []), valR (L.getD 2 []), unhexR ((L.getD (L.length - 1) []).drop 1)⟩ : StepD) = _
                rw [HV1.out, HV2.out, HDD.out])
              have HRX : Hid (r = if lineP ⟨xk, v1, v2, ds⟩ = some (s ++ [10]) then some ⟨xk, v1, v2, ds⟩ else none) := hid (by rw [HRR.out, HEX.out])
              have HOKX : Hid (StepOk ⟨xk, v1, v2, ds⟩) := hid (by rw [← HEX.out]; exact readR_ok _ _)
              have CL := refLine_any (s := ⟨xk, v1, v2, ds⟩) (a := da) (c := dc) (n := q) (w := w30) ⟨by have := HXK.out; exact ⟨by simp only; omega, by simp only; omega⟩, HOKX.out, HRW.out⟩ HQL (by first | omega | (have := HQJ.out; omega))
              obtain ⟨lp, hlp⟩ : ∃ lp, lineP ⟨xk, v1, v2, ds⟩ = lp := ⟨_, rfl⟩
              rw [hlp] at HRX CL
              have HLP := hid hlp
              clear hlp HRR HEX
              have y0 := HX30.out.c0
              have y1 := HX30.out.c1
              have y2 := HX30.out.c2
              have y3 := HX30.out.c3
              rcases lp with _ | t
              · have HRN : Hid (r = none) := hid (by rw [HRX.out, if_neg (by simp)])
                have CLH : Hid (Calls Tryz.prog 62 #[.agg #[.int .i64 xk, .int .i64 v1, .int .i64 v2, .slice da q dc]] w30 fun e w' => e = .returned (.tuple #[.string ⟨#[]⟩, .bool false]) ∧ Below w30.heap.size w30 w') := hid CL
                clear CL
                go_wp2_with fail
                refine CLH.out.mono ?_
                rintro e w31 ⟨rfl, hb31⟩
                clear CLH
                have HRWb := hid (HRW.out.ext hb31)
                have HSZb : Hid (w30.heap.size ≤ w31.heap.size) := hid hb31.size
                clear HRW
                have HM31 : Hid (Mut (fun q => q = sb ∨ W3.heap.size ≤ q) W3 w31) := hid (HM30.out.trans ((Mut.of_below (F := fun q => w30.heap.size ≤ q) hb31).mono fun q _ e => .inr (Nat.le_trans HM30.out.size e)))
                have HX31 := hid (HX30.out.ext hb31)
                clear hb31 HM30 HX30
                clear y0 y1 y2 y3 HRX HLP
                have HB0 : Hid (Below w.heap.size w w31) := hid (HB3.out.trans (HM31.out.below (B := w.heap.size) (by have := HB3.out.size; omega) fun q e => by have := HG3.out; have := HB3.out.size; rcases e with e | e <;> omega))
                have HX0 := hid (HX3.out.mut HM31.out (fun e => by have := HG3.out; rcases e with e | e <;> omega))
                have z0 := HX0.out.c0
                have z1 := HX0.out.c1
                have z2 := HX0.out.c2
                have z3 := HX0.out.c3
                have zf := HX0.out.f
                go_wp2_with fail
                refine bodyPost_ret (v := .tuple #[.agg ([.int .i64 0, .int .i64 0, .int .i64 0, .slice none 0 0] : List Value).toArray, .bool false]) (results_cell_tmp (p := 2) (q := 3) (ty := 62) rfl _ _ w.heap.size [.int .i64 0, .int .i64 0, .int .i64 0, .slice none 0 0] _ rfl (HX0.out.all _ _ _ _).range Tryz.underlying62 rfl (infoStepL _ _ _ _)) rfl ⟨by rw [HRN.out]; rfl, below_all HB0.out (Nat.le_refl _) _ _ _ _⟩
              · by_cases heq : t = s ++ [10]
                · have HRS : Hid (r = some ⟨xk, v1, v2, ds⟩) := hid (by rw [HRX.out, heq, if_pos rfl])
                  have u1 : (t != s ++ [10]) = false := by simp [heq]
                  have u2 : (t == s ++ [10]) = true := by simp [heq]
                  have acat := run_cat s [10] (by have := HS.out; omega) (by simp)
                  clear heq HRX HLP
                  have CLH : Hid (Calls Tryz.prog 62 #[.agg #[.int .i64 xk, .int .i64 v1, .int .i64 v2, .slice da q dc]] w30 fun e w' => e = .returned (.tuple #[.string ⟨t.toArray⟩, .bool true]) ∧ Below w30.heap.size w30 w') := hid CL
                  clear CL
                  go_wp2_with fail
                  refine CLH.out.mono ?_
                  rintro e w31 ⟨rfl, hb31⟩
                  clear CLH
                  have HRWb := hid (HRW.out.ext hb31)
                  have HSZb : Hid (w30.heap.size ≤ w31.heap.size) := hid hb31.size
                  clear HRW
                  have HM31 : Hid (Mut (fun q => q = sb ∨ W3.heap.size ≤ q) W3 w31) := hid (HM30.out.trans ((Mut.of_below (F := fun q => w30.heap.size ≤ q) hb31).mono fun q _ e => .inr (Nat.le_trans HM30.out.size e)))
                  have HX31 := hid (HX30.out.ext hb31)
                  clear hb31 HM30 HX30
                  clear y0 y1 y2 y3
                  have HB0 : Hid (Below w.heap.size w w31) := hid (HB3.out.trans (HM31.out.below (B := w.heap.size) (by have := HB3.out.size; omega) fun q e => by have := HG3.out; have := HB3.out.size; rcases e with e | e <;> omega))
                  have HX0 := hid (HX3.out.mut HM31.out (fun e => by have := HG3.out; rcases e with e | e <;> omega))
                  have z0 := HX0.out.c0
                  have z1 := HX0.out.c1
                  have z2 := HX0.out.c2
                  have z3 := HX0.out.c3
                  have zf := HX0.out.f
                  have y0 := HX31.out.c0
                  have y1 := HX31.out.c1
                  have y2 := HX31.out.c2
                  have y3 := HX31.out.c3
                  go_wp2_with fail
                  refine bodyPost_ret (v := .tuple #[.agg ([.int .i64 xk, .int .i64 v1, .int .i64 v2, .slice da q dc] : List Value).toArray, .bool true]) (results_cell_tmp (p := 2) (q := 3) (ty := 62) rfl _ _ w.heap.size [.int .i64 xk, .int .i64 v1, .int .i64 v2, .slice da q dc] _ rfl (HX0.out.all _ _ _ _).range Tryz.underlying62 rfl (infoStepL _ _ _ _)) rfl ⟨?_, below_all HB0.out (Nat.le_refl _) _ _ _ _⟩
                  rw [HRS.out]
                  refine ⟨da, dc, by rw [HQL.out], ?_, fun b off e => by have := HDG.out b off e; have := HSZb.out; simp only [World.size_setCell]; omega⟩
                  exact HRWb.out.mutT (mut_all _ _ _ _ _ _) fun b off e hne h => by have := HDG.out b off e; omega
                · have HRN : Hid (r = none) := hid (by rw [HRX.out, if_neg (fun h => heq (Option.some.inj h))])
                  have u1 : (t != s ++ [10]) = true := by simpa using heq
                  have u2 : (t == s ++ [10]) = false := by simpa using heq
                  have acat := run_cat s [10] (by have := HS.out; omega) (by simp)
                  clear heq HRX HLP
                  have CLH : Hid (Calls Tryz.prog 62 #[.agg #[.int .i64 xk, .int .i64 v1, .int .i64 v2, .slice da q dc]] w30 fun e w' => e = .returned (.tuple #[.string ⟨t.toArray⟩, .bool true]) ∧ Below w30.heap.size w30 w') := hid CL
                  clear CL
                  go_wp2_with fail
                  refine CLH.out.mono ?_
                  rintro e w31 ⟨rfl, hb31⟩
                  clear CLH
                  have HRWb := hid (HRW.out.ext hb31)
                  have HSZb : Hid (w30.heap.size ≤ w31.heap.size) := hid hb31.size
                  clear HRW
                  have HM31 : Hid (Mut (fun q => q = sb ∨ W3.heap.size ≤ q) W3 w31) := hid (HM30.out.trans ((Mut.of_below (F := fun q => w30.heap.size ≤ q) hb31).mono fun q _ e => .inr (Nat.le_trans HM30.out.size e)))
                  have HX31 := hid (HX30.out.ext hb31)
                  clear hb31 HM30 HX30
                  clear y0 y1 y2 y3
                  have HB0 : Hid (Below w.heap.size w w31) := hid (HB3.out.trans (HM31.out.below (B := w.heap.size) (by have := HB3.out.size; omega) fun q e => by have := HG3.out; have := HB3.out.size; rcases e with e | e <;> omega))
                  have HX0 := hid (HX3.out.mut HM31.out (fun e => by have := HG3.out; rcases e with e | e <;> omega))
                  have z0 := HX0.out.c0
                  have z1 := HX0.out.c1
                  have z2 := HX0.out.c2
                  have z3 := HX0.out.c3
                  have zf := HX0.out.f
                  go_wp2_with fail
                  refine bodyPost_ret (v := .tuple #[.agg ([.int .i64 0, .int .i64 0, .int .i64 0, .slice none 0 0] : List Value).toArray, .bool false]) (results_cell_tmp (p := 2) (q := 3) (ty := 62) rfl _ _ w.heap.size [.int .i64 0, .int .i64 0, .int .i64 0, .slice none 0 0] _ rfl (HX0.out.all _ _ _ _).range Tryz.underlying62 rfl (infoStepL _ _ _ _)) rfl ⟨by rw [HRN.out]; rfl, below_all HB0.out (Nat.le_refl _) _ _ _ _⟩
        · have HRN : Hid (r = none) := hid (by rw [HR.out, if_neg (fun e => hlen (by rw [← HN.out]; exact e))])
          have g1 : ((n : Int) != 4) = true := by rw [bne_iff_ne]; omega
          have g2 : (n != 4) = true := by rw [bne_iff_ne]; exact hlen
          have g3 : ((n : Int) == 4) = false := by rw [beq_eq_false_iff_ne]; omega
          clear HR hlen
          have HB0 : Hid (Below w.heap.size w w4) := hid (HB3.out.trans (HM4.out.below (B := w.heap.size) (by have := HB3.out.size; omega) fun q e => by have := HG3.out; have := HB3.out.size; rcases e with e | e <;> omega))
          have HX0 := hid (HX3.out.mut HM4.out (fun e => by have := HG3.out; rcases e with e | e <;> omega))
          have z0 := HX0.out.c0
          have z1 := HX0.out.c1
          have z2 := HX0.out.c2
          have z3 := HX0.out.c3
          have zf := HX0.out.f
          go_wp2_with fail
          refine bodyPost_ret (v := .tuple #[.agg ([.int .i64 0, .int .i64 0, .int .i64 0, .slice none 0 0] : List Value).toArray, .bool false]) (results_cell_tmp (p := 2) (q := 3) (ty := 62) rfl _ _ w.heap.size [.int .i64 0, .int .i64 0, .int .i64 0, .slice none 0 0] _ rfl (HX0.out.all _ _ _ _).range Tryz.underlying62 rfl (infoStepL _ _ _ _)) rfl ⟨by rw [HRN.out]; rfl, below_all HB0.out (Nat.le_refl _) _ _ _ _⟩
end Go.Proofs.YtehagnbphamjhaaGreatDoor

namespace Go.Proofs.YtehagnbphamjhaaGreatDoor
open Go.RowKit
/-! ### the document's Parse: its walk -/
theorem goR_at {n fr k : Nat} {s : Str} (h1 : fr ≤ k) (h2 : s[k]? = some 10) (h3 : ∀ j, fr ≤ j → j < k → s[j]? ≠ some 10) : goR (n + 1) (s.drop fr) = match stepR ((s.drop fr).take (k - fr)) with | none => none | some x => (goR n (s.drop (k + 1))).map (x :: ·) := by
  have hk := (List.getElem?_eq_some_iff.1 h2).1
  have hs : s[k] = 10 := by rw [List.getElem?_eq_getElem hk] at h2; exact Option.some.inj h2
  have e : s.drop fr = (s.drop fr).take (k - fr) ++ 10 :: s.drop (k + 1) := by
    have e1 : (s.drop fr).drop (k - fr) = 10 :: s.drop (k + 1) := by
      rw [List.drop_drop, show fr + (k - fr) = k by omega, List.drop_eq_getElem_cons hk, hs]
    rw [← e1, List.take_append_drop]
  have hno : (10 : UInt8) ∉ (s.drop fr).take (k - fr) := by
    intro hm
    obtain ⟨j, hj⟩ := List.mem_iff_getElem?.1 hm
    have hjl : j < k - fr := by
      have := (List.getElem?_eq_some_iff.1 hj).1
      rw [List.length_take] at this
      omega
    rw [List.getElem?_take_of_lt hjl, List.getElem?_drop] at hj
    exact h3 _ (by omega) (by omega) hj
  rw [congrArg (goR (n + 1)) e, goR_line hno]
  rcases stepR ((s.drop fr).take (k - fr)) with _ | x <;> rfl
theorem goR_rest {n fr : Nat} {s : Str} (h1 : fr < s.length) (h3 : ∀ j, fr ≤ j → j < s.length → s[j]? ≠ some 10) : goR n (s.drop fr) = none := by
  cases n with
  | zero => rfl
  | succ n =>
    have hno : (10 : UInt8) ∉ s.drop fr := fun hm => by
      obtain ⟨j, hj⟩ := List.mem_iff_getElem?.1 hm
      have hjl : j < s.length - fr := by
        have := (List.getElem?_eq_some_iff.1 hj).1
        rw [List.length_drop] at this
        omega
      rw [List.getElem?_drop] at hj
      exact h3 _ (by omega) (by omega) hj
    rw [goR, if_neg (by rw [List.drop_eq_nil_iff]; omega), at1_no10 hno, if_neg (by omega)]
theorem stepR_kind {t : Str} {s : StepD} (h : stepR t = some s) : (-9223372036854775808 ≤ s.kind ∧ s.kind ≤ 9223372036854775807) ∧ StepOk s := stepP_kind (by rw [step_eq]; exact h)
set_option maxRecDepth 100000 in
set_option maxHeartbeats 12800000 in
theorem refParse_any {s : Str} {w : World} (hs : s.length ≤ 900000) :
    Calls Tryz.prog 17 #[.string ⟨s.toArray⟩] w fun e w' => ParseRes w' e (parseRS s) ∧ Below w.heap.size w w' := by
  obtain ⟨r, hr⟩ : ∃ r, parseRS s = r := ⟨_, rfl⟩
  rw [hr]
  obtain ⟨n, hn⟩ : ∃ n, s.length = n := ⟨_, rfl⟩
  have hz : (⟨s.toArray⟩ : ByteArray).size = n := by rw [bszP, hn]
  rw [hn] at hs
  have HN := hid hn
  have HR0 : Hid (r = endS ((goR (n + 1) (s.drop 0)).map ([] ++ ·))) := hid (by rw [← hr, List.drop_zero]; unfold parseRS; rw [hn]; cases goR (n + 1) s <;> rfl)
  obtain ⟨i0, hi, hz0, hz1, hz2⟩ := info_parts infoStepI
  clear hn hr
  go_enter Tryz.func17, Tryz.ntmps17
  go_wp2_with fail
  go_loopw [4, 5, 6] (fun v fv iv wr => ∃ (k fr m : Nat) (out : List StepD) (xs : List (List Value)), iv = .int .i64 k ∧ fv = .int .i64 fr ∧ k ≤ n ∧ fr ≤ k ∧ Hid (n < fr + m) ∧ Hid (out.length ≤ fr) ∧ Hid (∀ j, fr ≤ j → j < k → s[j]? ≠ some 10) ∧ Hid (r = endS ((goR m (s.drop fr)).map (out ++ ·))) ∧ Hid (OwnK wr w.heap.size 62 4 v xs) ∧ Hid (ElsAt wr (fun b => v.ownBlock = some b) xs (out.map stepH)) ∧ Hid (∀ s ∈ out, (-9223372036854775808 ≤ s.kind ∧ s.kind ≤ 9223372036854775807) ∧ StepOk s) ∧ Hid (Below w.heap.size w wr)) (fun _ _ iv _ => n - (intOf iv).toNat)
  case atStart => exact ⟨0, 0, n + 1, [], [], rfl, rfl, Nat.zero_le _, Nat.le_refl _, hid (by omega), hid (Nat.le_refl _), hid (fun j h1 h2 => absurd h2 (Nat.not_lt_zero _)), HR0, hid (OwnK.nil _ _ _ _), hid (ElsAt.nil _ _), hid (by simp), hid (Below.refl _ _)⟩
  case round =>
    obtain ⟨k, fr, m, out, xs, rfl, rfl, hk, hfr, hm, hol, hno, hf, how, hel, hok, hbw⟩ := hrel
    clear HR0
    by_cases hlt : k < n
    · have d1 : decide ((k : Int) < (n : Int)) = true := decide_eq_true (by omega)
      have d2 : decide (k < n) = true := decide_eq_true hlt
      obtain ⟨c, hc⟩ : ∃ c, s[k]? = some c := ⟨s[k]'(by rw [HN.out]; exact hlt), List.getElem?_eq_getElem _⟩
      have UI := fun W => str_at hc W
      have HC := hid hc
      clear hc
      by_cases h10 : c = 10
      · subst h10
        have UI : ∀ W, (Instr.index 9 (.string ⟨s.toArray⟩) (.int .i64 (k : Int))).run Tryz.prog W = .ok (.int .u8 10) W := UI
        obtain ⟨m, rfl⟩ : ∃ m', m = m' + 1 := ⟨m - 1, by have := hm.out; omega⟩
        have US := fun W => str_cut hfr (show k ≤ s.length by rw [HN.out]; omega) W
        obtain ⟨P, hP⟩ : ∃ P, (s.drop fr).take (k - fr) = P := ⟨_, rfl⟩
        have HPL : Hid (P.length ≤ 900000) := hid (by rw [← hP, List.length_take]; omega)
        have hf2 : r = endS ((match stepR P with | none => none | some x => (goR m (s.drop (k + 1))).map (x :: ·)).map (out ++ ·)) := by rw [hf.out, goR_at hfr HC.out hno.out, hP]
        rw [hP] at US
        have C3 := hid (refStep_any (s := P) (w := wr) HPL.out)
        obtain ⟨r3, hr3⟩ : ∃ r3, stepR P = r3 := ⟨_, rfl⟩
        rw [hr3] at hf2 C3
        have HR3P := hid hr3
        have HF2 := hid hf2
        clear hP hr3 hf2 hf hno HPL
        go_wp2_with fail
        refine C3.out.mono ?_
        rintro e w4 ⟨hres, hb4⟩
        have HB4 := hid (hbw.out.trans (hb4.mono hbw.out.size))
        rcases r3 with _ | st
        · have hres : e = .returned (.tuple #[.agg #[.int .i64 0, .int .i64 0, .int .i64 0, .slice none 0 0], .bool false]) := hres
          subst hres
          have HRE : Hid (r = ([], 5)) := hid (by rw [HF2.out]; rfl)
          clear HF2 hb4 C3
          go_wp2_with fail
          refine bodyPost_ret (v := .tuple #[.slice none 0 0, .int .i64 5]) (by simp [results, Tryz.results17, go_sem]) rfl ⟨ParseRes.err HRE.out, ?_⟩
          exact HB4.out.alloc HB4.out.size _
        · obtain ⟨sa, sc, rfl, hsr, hsa⟩ := hres
          obtain ⟨kd, av, bv, data⟩ := st
          simp only at hsr
          obtain ⟨dn, hdn⟩ : ∃ dn, data.length = dn := ⟨_, rfl⟩
          rw [hdn]
          obtain ⟨W5, hW5⟩ : ∃ W5, w4.alloc (.cells #[.int .i64 kd, .int .i64 av, .int .i64 bv, .slice sa dn sc] 62) = W5 := ⟨_, rfl⟩
          have hb5 : Below w4.heap.size w4 W5 := by rw [← hW5]; exact (Below.refl _ _).alloc (Nat.le_refl _) _
          have hx5 : Bx4 W5 w4.heap.size (.int .i64 kd) (.int .i64 av) (.int .i64 bv) (.slice sa dn sc) := by rw [← hW5]; exact Bx4.made _ _ _ _ _ _
          have HB5 := hid (HB4.out.trans (hb5.mono HB4.out.size))
          have hb45 : Below wr.heap.size wr W5 := hb4.trans (hb5.mono hb4.size)
          have HO5 := hid (how.out.ext hb45)
          have HEL5 := hid (hel.out.mut (Mut.of_below (F := fun _ => False) hb45) fun _ _ e => e.elim)
          have HIT : Hid (ItemAt W5 (fun b => u4.ownBlock = some b) (.slice sa dn sc) data) := hid (by
            refine ⟨sa, sc, by rw [hdn], hsr.ext hb5, (stepR_kind HR3P.out).2.d, fun b off e => ⟨?_, fun hb => ?_⟩⟩
            · have := (hsa b off e).2; have := hb5.size; omega
            · have h1 := (hsa b off e).1
              have h2 := (how.out.blk hb).2
              omega)
          have HST := hid (stepR_kind HR3P.out)
          have y0 := hx5.c0
          have y1 := hx5.c1
          have y2 := hx5.c2
          have y3 := hx5.c3
          have HXL : Hid (xs.length + 1 ≤ 1000000) := hid (by
            have h1 := hel.out.1
            rw [List.length_map] at h1
            have h2 := hol.out
            omega)
          have HF3 : Hid (r = endS ((goR m (s.drop (k + 1))).map ((out ++ [⟨kd, av, bv, data⟩]) ++ ·))) := hid (by rw [HF2.out]; cases goR m (s.drop (k + 1)) <;> simp)
          have HWX := hid hW5
          clear hb4 hb5 hb45 hx5 hsr hsa hdn C3 HB4 how hel HF2
          go_upto_region 10 with fail
          clear hW5
          go_wp2_with (at_builtin; refine wpList_appendEP (el := [.int .i64 kd, .int .i64 av, .int .i64 bv, .slice sa dn sc]) (b := W5.heap.size) Tryz.underlying28 hi hz0 hz1 hz2 rfl (by decide) (by decide) (HO5.out.ext ((Below.refl _ _).alloc (Nat.le_refl _) _)) rfl (fun u hu => by simp at hu; rcases hu with rfl | rfl | rfl | rfl <;> rfl) (cells4_new _ _ _ _ _ _) HXL.out (by have := HB5.out.size; simp; omega) rfl rfl rfl rfl ?_; intro v6 w6 hown6 hm6 hn6)
          have hmw : Mut (fun g => u4.ownBlock = some g) W5 w6 := (Mut.of_below ((Below.refl _ _).alloc (Nat.le_refl _) _)).trans (hm6.mono fun k _ e => e)
          have HEL6 : Hid (ElsAt w6 (fun b => v6.ownBlock = some b) (xs ++ [[.int .i64 kd, .int .i64 av, .int .i64 bv, .slice sa dn sc]]) ((out ++ [(⟨kd, av, bv, data⟩ : StepD)]).map stepH)) := hid (by
            have h0 := (HEL5.out.snoc (q := [.int .i64 kd, .int .i64 av, .int .i64 bv]) HIT.out).grow (N' := fun b => u4.ownBlock = some b ∨ W5.heap.size ≤ b) fun b h => h
            have h1 := h0.mut hmw fun b _ e => .inl e
            have h2 := h1.grow (N' := fun b => v6.ownBlock = some b) fun b hb => .inl ((hn6 b hb).imp id fun h => by simp at h; omega)
            rw [List.map_append]
            exact h2)
          have HB6 : Hid (Below w.heap.size w w6) := hid (HB5.out.trans (hmw.below HB5.out.size fun b e => (HO5.out.blk e).1))
          have HO6 := hid hown6
          have HOK6 : Hid (∀ s ∈ out ++ [(⟨kd, av, bv, data⟩ : StepD)], (-9223372036854775808 ≤ s.kind ∧ s.kind ≤ 9223372036854775807) ∧ StepOk s) := hid fun s hs => by
            rcases List.mem_append.1 hs with hs | hs
            · exact hok.out s hs
            · rw [List.mem_singleton.1 hs]; exact HST.out
          clear hm6 hn6 hown6 hmw y0 y1 y2 y3
          go_wp2_with fail
          go_roundw
          case rel => exact ⟨k + 1, k + 1, m, out ++ [⟨kd, av, bv, data⟩], _, by go_num, by go_num, by omega, Nat.le_refl _, hid (by have := hm.out; omega), hid (by have := hol.out; simp; omega), hid (fun j h1 h2 => by omega), HF3, HO6, HEL6, HOK6, HB6⟩
          case measure => simp [intOf]; omega
      · obtain ⟨x, hx⟩ : ∃ x, c.toNat = x := ⟨_, rfl⟩
        have hx10 : x ≠ 10 := fun e => h10 (by apply UInt8.toNat_inj.1; rw [hx, e]; rfl)
        have g3 : ((x : Int) != 10) = true := by rw [bne_iff_ne]; omega
        have g4 : ((x : Int) == 10) = false := by rw [beq_eq_false_iff_ne]; omega
        have g5 : (x != 10) = true := by rw [bne_iff_ne]; exact hx10
        have g6 : (x == 10) = false := by rw [beq_eq_false_iff_ne]; exact hx10
        rw [hx] at UI
        have HNO : Hid (∀ j, fr ≤ j → j < k + 1 → s[j]? ≠ some 10) := hid (fun j h1 h2 => by
          by_cases e : j = k
          · subst e; rw [HC.out]; intro e2; exact h10 (Option.some.inj e2)
          · exact hno.out j h1 (by omega))
        clear hx hx10 h10 hno
        go_wp2_with fail
        go_roundw
        case rel => exact ⟨k + 1, fr, m, out, xs, by go_num, rfl, by omega, by omega, hm, hol, HNO, hf, how, hel, hok, hbw⟩
        case measure => simp [intOf]; omega
    · have d1 : decide ((k : Int) < (n : Int)) = false := decide_eq_false (by omega)
      have d2 : decide (k < n) = false := decide_eq_false hlt
      have hkn : k = n := by omega
      by_cases hfl : fr < n
      · have q1 : decide ((fr : Int) < (n : Int)) = true := decide_eq_true (by omega)
        have q2 : decide (fr < n) = true := decide_eq_true hfl
        have HRE : Hid (r = ([], 5)) := hid (by rw [hf.out, goR_rest (by rw [HN.out]; exact hfl) (fun j h1 h2 => hno.out j h1 (by rw [HN.out] at h2; omega))]; rfl)
        clear hf hno hkn how hel hok
        go_wp2_with fail
        refine bodyPost_ret (v := .tuple #[.slice none 0 0, .int .i64 5]) (by simp [results, Tryz.results17, go_sem]) rfl ⟨ParseRes.err HRE.out, hbw.out⟩
      · have q1 : decide ((fr : Int) < (n : Int)) = false := decide_eq_false (by omega)
        have q2 : decide (fr < n) = false := decide_eq_false hfl
        have HRO : Hid (r = endS (some out)) := hid (by
          obtain ⟨m', rfl⟩ : ∃ m', m = m' + 1 := ⟨m - 1, by have := hm.out; omega⟩
          rw [hf.out, List.drop_eq_nil_of_le (by rw [HN.out]; omega), goR, if_pos rfl]
          simp)
        obtain ⟨a9, c9, rfl, hc9, hrow9⟩ := steps_row how.out hel.out hok.out
        have HRW := hid hrow9
        have HC9 := hid hc9
        obtain ⟨z, hol9⟩ : ∃ z, out.length = z := ⟨_, rfl⟩
        have HZ := hid hol9
        rw [hol9]
        clear hf hrow9 hc9 hol9 hkn hno how hel hok
        by_cases hbig : 4096 < z
        · have HRE : Hid (r = ([], 3)) := hid (by rw [HRO.out]; unfold endS; simp only []; rw [if_pos (by rw [HZ.out]; exact hbig)])
          have q3 : decide ((z : Int) > 4096) = true := decide_eq_true (by omega)
          have q4 : decide (4096 < (z : Int)) = true := decide_eq_true (by omega)
          have q5 : decide (4096 < z) = true := decide_eq_true hbig
          go_wp2_with fail
          refine bodyPost_ret (v := .tuple #[.slice none 0 0, .int .i64 3]) (by simp [results, Tryz.results17, go_sem]) rfl ⟨ParseRes.err HRE.out, hbw.out⟩
        · have HRE : Hid (r = (out, 0)) := hid (by rw [HRO.out]; unfold endS; simp only []; rw [if_neg (by rw [HZ.out]; exact hbig)])
          have q3 : decide ((z : Int) > 4096) = false := decide_eq_false (by omega)
          have q4 : decide (4096 < (z : Int)) = false := decide_eq_false (by omega)
          have q5 : decide (4096 < z) = false := decide_eq_false hbig
          go_wp2_with fail
          refine bodyPost_ret (v := .tuple #[.slice a9 z c9, .int .i64 0]) (by simp [results, Tryz.results17, go_sem]) rfl ⟨?_, hbw.out⟩
          rw [HRE.out]
          exact ⟨a9, c9, by rw [HZ.out]; rfl, HRW.out, HC9.out⟩
end Go.Proofs.YtehagnbphamjhaaGreatDoor

namespace Go.Proofs.YtehagnbphamjhaaGreatDoor
open Go.RowKit
/-! ### the law PlayParses: its walk -/
set_option maxRecDepth 100000 in
set_option maxHeartbeats 6400000 in
theorem playParses_law {s : Str} {w : World} (he : EnvP w) :
    Calls Tryz.prog 5 #[.string ⟨s.toArray⟩] w fun e w' => e = .returned (.bool true) ∧ Below w.heap.size w w' := by
  obtain ⟨z, hz⟩ : ∃ z, s.length = z := ⟨_, rfl⟩
  have HZ := hid hz
  have HE := hid he
  have hsz : (⟨s.toArray⟩ : ByteArray).size = z := by rw [bszP, hz]
  obtain ⟨S, hS⟩ : ∃ S : ByteArray, (⟨s.toArray⟩ : ByteArray) = S := ⟨_, rfl⟩
  rw [hS] at hsz ⊢
  have HS := hid hS
  by_cases hbig : 5000 < z
  · have e1 : decide ((z : Int) > 5000) = true := decide_eq_true (by omega)
    have e2 : decide (5000 < (z : Int)) = true := decide_eq_true (by omega)
    have e3 : decide (5000 < z) = true := decide_eq_true hbig
    have CA := hid (awake30_any w he)
    clear hz hS he
    go_enter Tryz.func5, Tryz.ntmps5
    go_wp2_with (go_at_call 9; refine CA.out.mono ?_; rintro e w3 ⟨rfl, hb3⟩)
    go_ret
    exact ⟨rfl, hb3⟩
  have e1 : decide ((z : Int) > 5000) = false := decide_eq_false (by omega)
  have e2 : decide (5000 < (z : Int)) = false := decide_eq_false (by omega)
  have e3 : decide (5000 < z) = false := decide_eq_false hbig
  have HZB : Hid (s.length ≤ 5000) := hid (by rw [HZ.out]; omega)
  have CQ := parse_anyS (s := s) (w := w) (by have := HZB.out; omega) he
  obtain ⟨m, f, hpa⟩ : ∃ m f, parseS s = (m, f) := ⟨_, _, rfl⟩
  have hcode := parseS_code s
  rw [hpa] at CQ hcode
  rw [HS.out] at CQ
  have CQ := hid CQ
  have HPA := hid hpa
  clear hpa hz hS he hbig
  go_enter Tryz.func5, Tryz.ntmps5
  go_wp2_with fail
  refine CQ.out.mono ?_
  rintro e' w3 ⟨⟨a3, c3, rfl, hr3, hc3⟩, hb3⟩
  have HR3 : Hid (StepRow w3 a3 m) := hid hr3
  have HB3 := hid hb3
  obtain ⟨q, hq⟩ : ∃ q, (m, f).1.length = q := ⟨_, rfl⟩
  have HQ : Hid (m.length = q) := hid hq
  have HQB : Hid (q ≤ 70368744177664) := hid (by
    have h1 : m.length ≤ 4096 := by
      have h2 := HPA.out
      rw [parse_same] at h2
      unfold parseRS endS at h2
      split at h2
      · injection h2 with h3 h4; rw [← h3]; simp
      · split at h2
        · injection h2 with h3 h4; rw [← h3]; simp
        · injection h2 with h3 h4; rw [← h3]; omega
    rw [← HQ.out]; omega)
  rw [hq]
  have CR := refParse_any (s := s) (w := w3) (by have := HZB.out; omega)
  rw [← parse_same, HPA.out, HS.out] at CR
  have CR := hid CR
  clear hr3 hc3 hb3 CQ hq
  rcases hcode with h0 | h0 | h0
  all_goals
    subst h0
    go_wp2_with fail
    refine CR.out.mono ?_
    rintro e' w4 ⟨⟨a4, c4, rfl, hr4, hc4⟩, hb4⟩
    have hr4 : StepRow w4 a4 m := hr4
    have HB4 := hid (HB3.out.trans (hb4.mono HB3.out.size))
    have CS := hid (sameSteps_true (c := c3) (d := c4) HQ (HR3.out.ext hb4) hr4 HQB.out)
    have hq2 : ∀ f : Nat, List.length (Prod.fst (m, f)) = q := fun _ => HQ.out
    rw [hq2]
    clear hr4 hc4 hb4 CR hq2
    go_wp2_with fail
    refine CS.out.mono ?_
    rintro e' w5 ⟨rfl, hb5⟩
    have HB5 := hid (HB4.out.trans (hb5.mono HB4.out.size))
    have CA := hid (awake30_any w5 (HE.out.ext HB5.out))
    clear CS hb5
    go_wp2_with (go_at_call 9; refine CA.out.mono ?_; rintro e' w6 ⟨rfl, hb6⟩)
    go_ret
    exact ⟨rfl, HB5.out.trans (hb6.mono HB5.out.size)⟩
end Go.Proofs.YtehagnbphamjhaaGreatDoor

namespace Go.Proofs.YtehagnbphamjhaaGreatDoor.PlayParsesProof
open Go.ChangeShapes Go.WideShapes Go.ChangeAt Go.RowKit
abbrev wargs : Array Value := #[.string ⟨#[]⟩]
theorem reads (os : Os) {H : Type} (enc : TypeId × Value → H) : DataW.whole enc Tryz.prog ((World.laidAll Tryz.prog os Rows.playParsesRow.laid).forCall (fun _ _ => 0) ⟨#[], wargs, []⟩).memory Tryz.f5.params.toList Rows.playParsesSpec.vars false wargs.toList 8 = some ([.lit (.string [])], [], []) := by kernel_rfl
theorem env_of {W : World} (hL : laidMet Tryz.prog Rows.playParsesRow.laid W) (hsh : W.ShapedOpen Tryz.prog) : EnvP W := by
  obtain ⟨m, hm⟩ := Go.Proofs.cell_of_shapedOpen_int (g := 1) (t := 3) (zero := #[.int .i64 0]) (k := .i64) hsh (of_decide_eq_true (by kernel_rfl)) (by kernel_rfl) rfl (by kernel_rfl) (by kernel_rfl) Tryz.underlying3
  have hT : TabOk W := Lib.tabIs_of_head (t := 205) (e := 27) (n := 20) pf_gTab (by kernel_rfl) (by kernel_rfl) Tryz.underlying27 (by kernel_rfl) (by kernel_rfl) hL.tail.tail
  obtain ⟨a1, s1, hv1, -, -, -⟩ := laid_sentinel hL.tail.tail.tail.tail.tail pf_gES pf_gESType Tryz.underlying67 pf_rowP Tryz.underlying365 Tryz.underlying367 rfl rfl Tryz.underlying9 pf_cellsE pf_cells9
  obtain ⟨a2, s2, hv2, -, -, -⟩ := laid_sentinel hL.tail.tail.tail.tail pf_gER pf_gERType Tryz.underlying67 pf_rowP Tryz.underlying365 Tryz.underlying367 rfl rfl Tryz.underlying9 pf_cellsE pf_cells9
  exact ⟨hT, ⟨_, _, hv1⟩, ⟨_, _, hv2⟩, ⟨m, hm⟩⟩
set_option maxRecDepth 100000 in
theorem lifted (os : Os) (started : os.Started) (H : Type) (enc : TypeId × Value → H) (F : Stop.Interp) :
    ReturnsInHanded {} Tryz.checked os 5 .any ((OpenSpec.ofChange Rows.playParsesSpec).preRow enc Tryz.prog Tryz.f5 Rows.playParsesRow.domain false Rows.playParsesRow.laid) (((OpenSpec.ofChange Rows.playParsesSpec).at F).post enc Tryz.prog Tryz.f5 false true false false) := by
  refine returnsInHanded_of_row (C := Tryz.checked) (s := OpenSpec.ofChange Rows.playParsesSpec) pf_own started (by kernel_rfl) Tryz.func5
    (witness_row_atRef (enc := enc) (C := Tryz.checked) false (World.laidAll Tryz.prog os Rows.playParsesRow.laid) wargs (World.laidAll_os _ _ _) (playParses_vref os) (playParses_heap os) (playParses_okw os)
      (OpenSpec.preRow_of_cond 8 (reads os enc) (by kernel_rfl) (fun k hk => by cases hk) (by kernel_rfl) (playParses_met os))) ?_
  intro W base args ds gs before hval0 hW _ _ hsz0 hL hsh _
  rw [MakeChecks.laidMetH_plain _ _ _ (by kernel_rfl)] at hL
  have hE := env_of hL hsh
  have hval : ∀ (j : Nat) t v, Tryz.f5.params[j]? = some t → args[j]? = some v → Value.okWide Tryz.prog W .any base t v := hval0
  have hsz : (DataW.weightsEach Tryz.prog (Tryz.f5.params.toList ++ Rows.playParsesSpec.plain.varTypes Tryz.prog) (ds ++ gs)).all (· ≤ reachBytes) = true := hsz0
  have hW' := hW
  obtain ⟨p, q, hA0, hV, rfl, hfz, hnd⟩ := hW
  have hA : DataW.TrodAll enc Tryz.prog W 0 (fun _ => true) true Tryz.f5.params.toList args.toList ds p := hA0
  rw [Tryz.params5] at hA hval hsz
  obtain ⟨v0, vs0, d0, ds0, p0, q0, hargs, rfl, rfl, h0, r0⟩ := trodAll_cons hA
  obtain ⟨rfl, rfl, rfl⟩ := trodAll_nil r0
  obtain rfl : args = #[v0] := by cases args; simp_all
  obtain ⟨rfl, rfl⟩ := trodVars_none hV
  have k0 := h0
  have lt0 : ∀ x ∈ p0, x.block < W.heap.size := by obtain ⟨m, hm⟩ := k0; exact DataW.trod_lt m _ _ _ hm
  obtain ⟨sb0, rfl, -, -, -⟩ := Go.ChangeMaps.open_string Tryz.underlying9 (hval 0 9 v0 rfl rfl) h0
  obtain ⟨s0, rfl⟩ : ∃ s : List UInt8, sb0 = ⟨s.toArray⟩ := ⟨sb0.data.toList, by simp⟩
  clear hA0 hval0 hsz0
  refine (playParses_law (s := s0) hE).mono fun e W' ⟨he, bel⟩ => ?_
  subst he
  exact ⟨_, rfl, _, _, _, [], _, [], hW', trodAll_mk1 (shut_bool Tryz.underlying4 _), (trodAll_cons_mk (Below.trod pf_laidOut (by kernel_rfl) (of_decide_eq_true (by kernel_rfl)) k0 bel lt0) trodAll_mk0), rfl, bel.frame _, fun h => by cases h⟩
set_option maxRecDepth 100000 in
theorem joined : joinedFacts Tryz.pinned.checked.prog 5 Tryz.f5 (OpenSpec.ofChange Rows.playParsesSpec).bare Rows.playParsesRow = true := by
  unfold joinedFacts
  simp only [Bool.and_eq_true]
  exact ⟨⟨⟨⟨⟨⟨⟨⟨⟨⟨⟨⟨⟨⟨⟨⟨⟨⟨⟨⟨⟨⟨⟨⟨⟨⟨⟨⟨⟨⟨⟨playParses_j1, pf_laidOut⟩, pf_mapsRowed⟩, playParses_j4⟩, playParses_j5⟩, playParses_j6⟩, pf_s2⟩, playParses_j8⟩, pf_s4⟩, playParses_j10⟩, playParses_j11⟩, playParses_j12⟩, playParses_j13⟩, playParses_j14⟩, playParses_j15⟩, playParses_j16⟩, playParses_j17⟩, playParses_j17b⟩, playParses_j18⟩, playParses_j19⟩, playParses_j20⟩, playParses_j21⟩, playParses_j22⟩, playParses_j23⟩, pf_heard⟩, pf_enter⟩, playParses_j24⟩, playParses_j25⟩, playParses_j26⟩, playParses_j27⟩, playParses_j28⟩, playParses_j29⟩
theorem said : Rows.PlayParsesSaid :=
  OpenClaim.holds_of_cond 5 Tryz.f5 rfl rfl rfl rfl rfl rfl rfl ⟨rfl, rfl, rfl, rfl, rfl⟩ rfl rfl rfl rfl rfl playParses_fnm Tryz.func5 joined
    (of_decide_eq_true (by kernel_rfl)) (by unfold Func.isWrapper; first | (rw [if_pos (by decide +kernel)]; kernel_rfl) | (rw [if_neg (by decide +kernel)]; exact ⟨rfl, rfl⟩))
    (fun os started H enc _ F => by rw [OpenClaim.pre_eq_preRow]; exact lifted os started H enc F)
/-- No parameter wants a stand-in; the program's own looks are off. -/
theorem plain (f : FuncId) (fn : Func) (hf : Tryz.pinned.checked.prog.funcNamed "choragus/choraguslaw30.PlayParses" = some f) (hfn : Tryz.pinned.checked.prog.funcs[f]? = some fn) :
    true = Tryz.pinned.checked.prog.looks [] ∧ ∀ (j : Nat) t, fn.params[j]? = some t → Tryz.pinned.checked.prog.wantsStandIn t = false := by
  obtain rfl : f = 5 := Option.some.inj (playParses_fnm.symm.trans hf) |>.symm
  obtain rfl : fn = Tryz.f5 := (Option.some.inj (Tryz.func5.symm.trans hfn)).symm
  refine ⟨pf_looks, fun j t ht => ?_⟩
  rw [Tryz.params5] at ht
  have hm : t = 9 := by simpa using Array.mem_of_getElem? ht
  subst hm
  exact (show Tryz.prog.wantsStandIn 9 = false by kernel_rfl)
theorem card : Rows.PlayParsesCardSaid :=
  Claim7.holds_tied_plain_at .later [] _ _ _ _ said (fun _ h => by cases h) playParses_wft (fun _ h => by cases h) playParses_row_tie rfl ⟨rfl, rfl⟩ pf_main rfl plain (goesBy_none tz_go _ rfl)
end Go.Proofs.YtehagnbphamjhaaGreatDoor.PlayParsesProof
namespace Go.Proofs.YtehagnbphamjhaaGreatDoor
theorem playParses_holds : Rows.PlayParsesCardSaid := PlayParsesProof.card
#print axioms playParses_holds
end Go.Proofs.YtehagnbphamjhaaGreatDoor

