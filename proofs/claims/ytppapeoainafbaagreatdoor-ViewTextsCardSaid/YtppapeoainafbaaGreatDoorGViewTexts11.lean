/- Parts of the proof: Y6 Y7 G7. -/
import Derived.Lib.PathFns
import Derived.Test.YtppapeoainafbaaGreatDoorG6
namespace Go.Proofs.YtppapeoainafbaaGreatDoor
open Go.RowKit
/-! ### the reference's number and Parse -/
theorem num_drop (most n : Nat) {s : Str} {k : Nat} (h : k < s.length) : numFrom most n (s.drop k) = if s[k].toNat < 48 ∨ 57 < s[k].toNat then (0, false) else numFrom most (n * 10 + (s[k].toNat - 48)) (s.drop (k + 1)) := by
  rw [List.drop_eq_getElem_cons h]; rfl
set_option maxHeartbeats 1600000 in
theorem refNum_any (s : Str) (hs : s.length ≤ 100000) (most : Nat) (hm : most < 18446744073709551616) (w : World) {r : Nat × Bool} (hr : Hid (numR most s = r)) :
    Calls Tryz.prog 100 #[.string ⟨s.toArray⟩, .int .u64 most] w fun e w' => e = .returned (.tuple #[.int .u64 r.1, .bool r.2]) ∧ Below w.heap.size w w' := by
  by_cases hbad : s = [] ∨ 12 < s.length
  · have hres : r = (0, false) := by rw [← hr.out]; unfold numR; rw [if_pos hbad]
    subst hres
    rcases (show s = [] ∨ (s ≠ [] ∧ 12 < s.length) by by_cases e : s = []; exact .inl e; exact .inr ⟨e, hbad.resolve_left e⟩) with rfl | ⟨h0, h12⟩
    · clear hbad hs
      go_enter Tryz.func100, Tryz.ntmps100
      go_wp2
      exact bodyPost_ret (v := .tuple #[.int .u64 0, .bool false]) (by simp [results, Tryz.results100, go_sem]) rfl ⟨rfl, Below.refl _ _⟩
    · have e1 : s.isEmpty = false := by cases s <;> simp at h0 ⊢
      have e2 : ¬ (s.length : Int) ≤ 12 := by omega
      have e3 : decide ((s.length : Int) > 12) = true := decide_eq_true (by omega)
      clear hbad
      go_enter Tryz.func100, Tryz.ntmps100
      go_wp2
      exact bodyPost_ret (v := .tuple #[.int .u64 0, .bool false]) (by simp [results, Tryz.results100, go_sem]) rfl ⟨rfl, Below.refl _ _⟩
  · have h0 : s ≠ [] := fun e => hbad (.inl e)
    have h12 : s.length ≤ 12 := by omega
    have e1 : s.isEmpty = false := by cases s <;> simp at h0 ⊢
    have e2 : (s.length : Int) ≤ 12 := by omega
    have e3 : decide ((s.length : Int) > 12) = false := decide_eq_false (by omega)
    have hres : numFrom most 0 s = r := by rw [← hr.out]; unfold numR; rw [if_neg hbad]
    have HRES := hid hres
    clear hres hbad h0 hs
    go_enter Tryz.func100, Tryz.ntmps100
    go_wp2
    clear e2 e3 e1
    go_loopw [6, 7] (fun vn i wr => ∃ n k : Nat, vn = .int .u64 n ∧ i = .int .i64 k ∧ k ≤ s.length ∧ n < 10 ^ k ∧ Hid (numFrom most n (s.drop k) = r) ∧ wr = w) (fun _ i _ => s.length - (intOf i).toNat)
    case atStart => exact ⟨0, 0, rfl, rfl, Nat.zero_le _, by simp, HRES.out, rfl⟩
    case round =>
      obtain ⟨n, k, rfl, rfl, hk, hn, hf, rfl⟩ := hrel
      by_cases hlt : k < s.length
      · have hp : 10 ^ k ≤ 10 ^ 11 := Nat.pow_le_pow_right (by omega) (by omega)
        have hd := num_drop most n hlt
        obtain ⟨c, hc⟩ : ∃ c, s[k] = c := ⟨_, rfl⟩
        rw [hc] at hd
        have hi : (⟨s.toArray⟩ : ByteArray)[k]'(by show k < s.toArray.size; simpa using hlt) = c := by rw [← hc]; rfl
        by_cases h48 : c.toNat < 48
        · have i1 : (c.toNat : Int) < 48 := by omega
          rw [if_pos (.inl h48)] at hd
          have HR := hid (hf.out.symm.trans hd)
          clear hd hf hc h48
          go_wp2
          rw [HR.out]
          exact bodyPost_ret (v := .tuple #[.int .u64 0, .bool false]) (by simp [results, Tryz.results100, go_sem]) rfl ⟨rfl, Below.refl _ _⟩
        · have i1 : ¬ (c.toNat : Int) < 48 := by omega
          have i1' : (48 : Int) ≤ (c.toNat : Int) := by omega
          by_cases h57 : 57 < c.toNat
          · have i2 : ¬ (c.toNat : Int) ≤ 57 := by omega
            have i3 : (57 : Int) < (c.toNat : Int) := by omega
            rw [if_pos (.inr h57)] at hd
            have HR := hid (hf.out.symm.trans hd)
            clear hd hf hc h48 h57
            go_wp2
            rw [HR.out]
            exact bodyPost_ret (v := .tuple #[.int .u64 0, .bool false]) (by simp [results, Tryz.results100, go_sem]) rfl ⟨rfl, Below.refl _ _⟩
          · have i2 : (c.toNat : Int) ≤ 57 := by omega
            rw [if_neg (by omega)] at hd
            have HR := hid (hd.symm.trans hf.out)
            have hn2 : n * 10 + (c.toNat - 48) < 10 ^ (k + 1) := by rw [Nat.pow_succ]; omega
            have hcast : ((n * 10 + (c.toNat - 48) : Nat) : Int) = (n : Int) * 10 + ((c.toNat : Int) - 48) := by omega
            have HN2 := hid hn2
            have HCA := hid hcast
            clear hd hf hc hn2 hcast
            go_wp2
            go_roundw
            case rel => exact ⟨n * 10 + (c.toNat - 48), k + 1, by rw [HCA.out], by go_num, by omega, HN2.out, HR.out, trivial⟩
            case measure => simp [intOf]; omega
      · have hk2 : s.drop k = [] := List.drop_eq_nil_of_le (by omega)
        rw [hk2] at hf
        have hr2 : r = (n, decide (n ≤ most)) := hf.out.symm
        by_cases hle : n ≤ most
        · have i1 : (n : Int) ≤ (most : Int) := by omega
          have HR : Hid (r = (n, true)) := hid (by rw [hr2]; simp [hle])
          clear hr2 hf
          go_wp2
          rw [HR.out]
          exact bodyPost_ret (v := .tuple #[.int .u64 n, .bool true]) (by simp [results, Tryz.results100, go_sem]) rfl ⟨rfl, Below.refl _ _⟩
        · have i1 : ¬ (n : Int) ≤ (most : Int) := by omega
          have HR : Hid (r = (n, false)) := hid (by rw [hr2]; simp [hle])
          clear hr2 hf
          go_wp2
          rw [HR.out]
          exact bodyPost_ret (v := .tuple #[.int .u64 n, .bool false]) (by simp [results, Tryz.results100, go_sem]) rfl ⟨rfl, Below.refl _ _⟩
end Go.Proofs.YtppapeoainafbaaGreatDoor

namespace Go.Proofs.YtppapeoainafbaaGreatDoor
open Go.RowKit
/-! ### the reference's Parse -/
theorem at1_drop {c : UInt8} {s : Str} {k : Nat} (h : k < s.length) : at1 c (s.drop k) = if s[k] = c then 0 else at1 c (s.drop (k + 1)) + 1 := by
  rw [List.drop_eq_getElem_cons h]
  unfold at1
  rw [List.findIdx_cons]
  by_cases e : s[k] = c
  · rw [if_pos e]; simp [e]
  · rw [if_neg e]; have : (s[k] == c) = false := by simpa using e
    rw [this]; rfl
theorem run_upto (s : Str) (k : Nat) (h : k ≤ s.length) (W : World) : (Instr.slice 9 (.string ⟨s.toArray⟩) none (some (.int .i64 (k : Int))) none).run Tryz.prog W = .ok (.string ⟨(s.take k).toArray⟩) W := by
  have hz : (⟨s.toArray⟩ : ByteArray).size = s.length := by show s.toArray.size = _; simp
  rw [run_slice_string_to_if W 9 _ .i64 _ Tryz.underlying9, if_pos (by rw [hz]; omega)]
  rw [Int.toNat_natCast, Lib.Pa.extract_upto]
theorem run_from (s : Str) (k : Nat) (h : k ≤ s.length) (W : World) : (Instr.slice 9 (.string ⟨s.toArray⟩) (some (.int .i64 (k : Int))) none none).run Tryz.prog W = .ok (.string ⟨(s.drop k).toArray⟩) W := by
  have hz : (⟨s.toArray⟩ : ByteArray).size = s.length := by show s.toArray.size = _; simp
  rw [run_slice_string_from_if W 9 _ .i64 _ Tryz.underlying9, if_pos (by rw [hz]; omega)]
  rw [Int.toNat_natCast, Lib.Pa.extract_from]
def refTest (a b : Nat) (x y : Bool) (s : Str) : Option Pid := if x = true ∧ y = true then pick2 a b s else none
theorem refParse_at {s : Str} {k : Nat} (h : at1 46 s = k) (hk : k < s.length) : refParseP s = refTest (numR 65535 (s.take k)).1 (numR 4294967295 (s.drop (k + 1))).1 (numR 65535 (s.take k)).2 (numR 4294967295 (s.drop (k + 1))).2 s := by
  subst h
  unfold refParseP refTest
  rw [if_pos hk]
theorem refParse_no {s : Str} (h : at1 46 s = s.length) : refParseP s = none := by
  unfold refParseP
  rw [if_neg (by omega)]
set_option maxHeartbeats 3200000 in
theorem refParse_any (s : Str) (hs : s.length ≤ 100000) (w : World) {r : Option Pid} (hr : Hid (refParseP s = r)) :
    Calls Tryz.prog 53 #[.string ⟨s.toArray⟩] w fun e w' => e = .returned (parseV r) ∧ Below w.heap.size w w' := by
  obtain ⟨W1, hW1⟩ : ∃ W1, w.alloc (.cells #[.int .u16 0, .int .u32 0] 25) = W1 := ⟨_, rfl⟩
  have hb1 : Below w.heap.size w W1 := by rw [← hW1]; exact (Below.refl _ _).alloc (Nat.le_refl _) _
  have hc : W1.cell? ⟨w.heap.size, 0, none⟩ = some (.int .u16 0) ∧ W1.cell? ⟨w.heap.size, 1, none⟩ = some (.int .u32 0) ∧ W1.frozen? ⟨w.heap.size, 0, none⟩ = false ∧ W1.frozen? ⟨w.heap.size, 1, none⟩ = false := by rw [← hW1]; simp
  have HB1 := hid hb1
  have HC : Hid (∀ X, Below W1.heap.size W1 X → X.cell? ⟨w.heap.size, 0, none⟩ = some (.int .u16 0) ∧ X.cell? ⟨w.heap.size, 1, none⟩ = some (.int .u32 0) ∧ X.frozen? ⟨w.heap.size, 0, none⟩ = false ∧ X.frozen? ⟨w.heap.size, 1, none⟩ = false) := hid fun X h => by
    have hl := World.block_lt_of_cell? W1 _ hc.1
    have hfr : ∀ j, X.frozen? ⟨w.heap.size, j, none⟩ = W1.frozen? ⟨w.heap.size, j, none⟩ := fun j => by
      unfold World.frozen?
      rw [h.block w.heap.size hl]
    exact ⟨(h.cell (p := ⟨w.heap.size, 0, none⟩) hl).trans hc.1, (h.cell (p := ⟨w.heap.size, 1, none⟩) hl).trans hc.2.1, (hfr 0).trans hc.2.2.1, (hfr 1).trans hc.2.2.2⟩
  clear hb1 hc
  go_enter Tryz.func53, Tryz.ntmps53
  go_wp2_with fail
  clear hW1
  go_loopw [4] (fun i wr => ∃ k : Nat, i = .int .i64 k ∧ k ≤ s.length ∧ Hid (at1 46 s = k + at1 46 (s.drop k)) ∧ wr = W1) (fun i _ => s.length - (intOf i).toNat)
  case atStart => exact ⟨0, rfl, Nat.zero_le _, hid (by simp), rfl⟩
  case round =>
    obtain ⟨k, rfl, hk, hf, hw⟩ := hrel
    have hw' := hw.symm
    subst hw'
    clear hw
    by_cases hlt : k < s.length
    · obtain ⟨c, hc⟩ : ∃ c, s[k] = c := ⟨_, rfl⟩
      have hi : (⟨s.toArray⟩ : ByteArray)[k]'(by show k < s.toArray.size; simpa using hlt) = c := by rw [← hc]; rfl
      have hd := at1_drop (c := 46) hlt
      rw [hc] at hd
      by_cases h46 : c = 46
      · subst h46
        rw [if_pos rfl] at hd
        have hat : at1 46 s = k := by rw [hf.out, hd]; rfl
        obtain ⟨x, hx⟩ : ∃ x, numR 65535 (s.take k) = x := ⟨_, rfl⟩
        obtain ⟨y, hy⟩ : ∃ y, numR 4294967295 (s.drop (k + 1)) = y := ⟨_, rfl⟩
        have hres := hr.out.symm.trans (refParse_at hat hlt)
        have lx := numR_le (most := 65535) (s := s.take k)
        have ly := numR_le (most := 4294967295) (s := s.drop (k + 1))
        rw [hx] at lx
        rw [hy] at ly
        rw [hx, hy] at hres
        obtain ⟨a, p⟩ := x
        obtain ⟨b, q⟩ := y
        have U1 := run_upto s k hk
        have U2 : (⟨s.toArray⟩ : ByteArray).extract (k + 1) s.length = ⟨(s.drop (k + 1)).toArray⟩ := by
          have := Lib.Pa.extract_from ⟨s.toArray⟩ (k + 1)
          rw [show (⟨s.toArray⟩ : ByteArray).size = s.length by show s.toArray.size = _; simp] at this
          exact this
        have C1 := hid (refNum_any (s.take k) (by simp; omega) 65535 (by omega) W1 (hid hx))
        have HRES := hid hres
        have LX := hid lx
        have LY := hid ly
        have HY := hid hy
        have i1 : IntKind.i64.wrap ((k : Int) + 1) = ((k + 1 : Nat) : Int) := by rw [IntKind.wrap_i64]; omega
        clear hd hf hc hx hy hres lx ly hat
        go_wp2_with fail
        (refine C1.out.mono ?_)
        rintro e w2 ⟨rfl, hb2⟩
        have HB2 := hid hb2
        have C2 := hid (refNum_any (s.drop (k + 1)) (by simp; omega) 4294967295 (by omega) w2 HY.out)
        clear hb2 C1
        go_wp2_with fail
        (refine C2.out.mono ?_)
        rintro e w5 ⟨rfl, hb3⟩
        have HB5 := hid (HB2.out.trans (hb3.mono HB2.out.size))
        clear hb3 C2
        have LXY : p = true → q = true → a ≤ 65535 ∧ b ≤ 4294967295 := fun h1 h2 => ⟨LX.out h1, LY.out h2⟩
        by_cases hpq : p = true ∧ q = true
        · obtain ⟨rfl, rfl⟩ := hpq
          obtain ⟨la, lb⟩ := LXY rfl rfl
          have j0 : IntKind.u16.wrap (a : Int) = a := by rw [IntKind.wrap_u16]; omega
          have j1 : IntKind.u32.wrap (b : Int) = b := by rw [IntKind.wrap_u32]; omega
          obtain ⟨W6, hW6⟩ : ∃ W6, w5.alloc (.cells #[.int .u16 a, .int .u32 b] 25) = W6 := ⟨_, rfl⟩
          have hb6 : Below w5.heap.size w5 W6 := by rw [← hW6]; exact (Below.refl _ _).alloc (Nat.le_refl _) _
          have k0 : W6.cell? ⟨w5.heap.size, 0, none⟩ = some (.int .u16 a) := by rw [← hW6]; simp
          have k1 : W6.cell? ⟨w5.heap.size, 1, none⟩ = some (.int .u32 b) := by rw [← hW6]; simp
          have HB6 := hid (HB5.out.trans (hb6.mono HB5.out.size))
          have C4 := hid (refPrint_any (x := a) (y := b) (by omega) (by omega) W6)
          clear hb6 LXY
          go_wp2_with fail
          (refine C4.out.mono ?_)
          rintro e w7 ⟨rfl, hb7⟩
          have HB7 := hid (HB6.out.trans (hb7.mono HB6.out.size))
          clear C4 hW6
          by_cases hps : printP ((a : Int), (b : Int)) = s
          · have u1 : (printP ((a : Int), (b : Int)) == s) = true := by simp [hps]
            have HPS := hid hps
            have k0' := (hb7.cell (p := ⟨w5.heap.size, 0, none⟩) (World.block_lt_of_cell? W6 _ k0)).trans k0
            have k1' := (hb7.cell (p := ⟨w5.heap.size, 1, none⟩) (World.block_lt_of_cell? W6 _ k1)).trans k1
            clear hps hb7 k0 k1
            obtain ⟨d0, d1, g0, g1⟩ := HC.out _ HB7.out
            have DD := hid (put2 d0 d1 (.int .u16 a) (.int .u32 b))
            have HF := hid (below_put2 (b := w.heap.size) (u0 := .int .u16 a) (u1 := .int .u32 b) (HB1.out.trans (HB7.out.mono HB1.out.size)) (Nat.le_refl _))
            have HR : Hid (r = some ((a : Int), (b : Int))) := hid (by rw [HRES.out]; unfold refTest pick2; rw [if_pos ⟨rfl, rfl⟩, if_pos HPS.out])
            go_wp2_with fail
            obtain ⟨q0, q1⟩ := DD.out
            refine bodyPost_ret (v := .tuple #[.agg #[.int .u16 a, .int .u32 b], .int .i64 0]) (by simp [results, Tryz.results53, go_sem, q0, q1]) rfl ⟨by rw [HR.out]; rfl, HF.out⟩
          · have u1 : (printP ((a : Int), (b : Int)) == s) = false := by simpa using hps
            have HPS := hid hps
            clear hps hb7 k0 k1
            obtain ⟨d0, d1, g0, g1⟩ := HC.out _ HB7.out
            have DD := hid (put2 d0 d1 (.int .u16 0) (.int .u32 0))
            have HF := hid (below_put2 (b := w.heap.size) (u0 := .int .u16 0) (u1 := .int .u32 0) (HB1.out.trans (HB7.out.mono HB1.out.size)) (Nat.le_refl _))
            have HR : Hid (r = none) := hid (by rw [HRES.out]; unfold refTest pick2; rw [if_pos ⟨rfl, rfl⟩, if_neg HPS.out])
            go_wp2_with fail
            obtain ⟨q0, q1⟩ := DD.out
            refine bodyPost_ret (v := .tuple #[.agg #[.int .u16 0, .int .u32 0], .int .i64 5]) (by simp [results, Tryz.results53, go_sem, q0, q1]) rfl ⟨by rw [HR.out]; rfl, HF.out⟩
        · obtain ⟨W6, hW6⟩ : ∃ W6, w5.alloc (.cells #[.int .u16 (IntKind.u16.wrap (a : Int)), .int .u32 ((a : Int) * 0 + (b : Int) % 4294967296)] 25) = W6 := ⟨_, rfl⟩
          rw [Int.mul_zero, Int.zero_add] at hW6
          have hb6 : Below w5.heap.size w5 W6 := by rw [← hW6]; exact (Below.refl _ _).alloc (Nat.le_refl _) _
          have HB6 := hid (HB5.out.trans (hb6.mono HB5.out.size))
          clear hb6 LXY
          obtain ⟨d0, d1, g0, g1⟩ := HC.out _ HB6.out
          have DD := hid (put2 d0 d1 (.int .u16 0) (.int .u32 0))
          have HF := hid (below_put2 (b := w.heap.size) (u0 := .int .u16 0) (u1 := .int .u32 0) (HB1.out.trans (HB6.out.mono HB1.out.size)) (Nat.le_refl _))
          have HR : Hid (r = none) := hid (by rw [HRES.out]; unfold refTest; rw [if_neg hpq])
          have hpq' : (p && q) = false := by cases p <;> cases q <;> simp at hpq ⊢
          clear hpq
          cases p
          · go_wp2_with fail
            obtain ⟨q0, q1⟩ := DD.out
            refine bodyPost_ret (v := .tuple #[.agg #[.int .u16 0, .int .u32 0], .int .i64 5]) (by simp [results, Tryz.results53, go_sem, q0, q1]) rfl ⟨by rw [HR.out]; rfl, HF.out⟩
          · cases q
            · go_wp2_with fail
              obtain ⟨q0, q1⟩ := DD.out
              refine bodyPost_ret (v := .tuple #[.agg #[.int .u16 0, .int .u32 0], .int .i64 5]) (by simp [results, Tryz.results53, go_sem, q0, q1]) rfl ⟨by rw [HR.out]; rfl, HF.out⟩
            · cases hpq'
      · rw [if_neg h46] at hd
        have i1 : ¬ (c.toNat : Int) = 46 := fun e => h46 (by apply UInt8.toNat_inj.1; show c.toNat = 46; omega)
        have i2 : c.toNat ≠ 46 := by omega
        have HF : Hid (at1 46 s = k + 1 + at1 46 (s.drop (k + 1))) := hid (by rw [hf.out, hd]; omega)
        clear hd hf hc
        go_wp2
        go_roundw
        case rel => exact ⟨k + 1, by go_num, by omega, HF.out, trivial⟩
        case measure => simp [intOf]; omega
    · have hke : k = s.length := by omega
      have hat : at1 46 s = s.length := by rw [hf.out, hke]; simp [at1]
      have HR := hid (hr.out.symm.trans (refParse_no hat))
      clear hat hf
      obtain ⟨d0, d1, g0, g1⟩ := HC.out _ (Below.refl _ _)
      have DD := hid (put2 d0 d1 (.int .u16 0) (.int .u32 0))
      have HF := hid (below_put2 (b := w.heap.size) (u0 := .int .u16 0) (u1 := .int .u32 0) HB1.out (Nat.le_refl _))
      go_wp2
      obtain ⟨q0, q1⟩ := DD.out
      refine bodyPost_ret (v := .tuple #[.agg #[.int .u16 0, .int .u32 0], .int .i64 5]) (by simp [results, Tryz.results53, go_sem, q0, q1]) rfl ⟨by rw [HR.out]; rfl, HF.out⟩
end Go.Proofs.YtppapeoainafbaaGreatDoor

namespace Go.Proofs.YtppapeoainafbaaGreatDoor
open Go.RowKit
/-! ### the reference's cut and digits -/
theorem cut1_at {c : UInt8} {s : Str} {k : Nat} (h : at1 c s = k) (hk : k < s.length) : cut1 c s = (s.take k, s.drop (k + 1)) := by
  unfold cut1; rw [h, if_pos hk]
theorem cut1_end {c : UInt8} {s : Str} (h : at1 c s = s.length) : cut1 c s = (s, []) := by
  unfold cut1; rw [if_neg (by omega)]
set_option maxHeartbeats 3200000 in
theorem cut1_any (c : UInt8) (cn : Nat) (hcn : c.toNat = cn) (s : Str) (hs : s.length ≤ 100000) (w : World) :
    Calls Tryz.prog 51 #[.string ⟨s.toArray⟩, .int .u8 cn] w fun e w' => e = .returned (.tuple #[.string ⟨(cut1 c s).1.toArray⟩, .string ⟨(cut1 c s).2.toArray⟩]) ∧ Below w.heap.size w w' := by
  go_enter Tryz.func51, Tryz.ntmps51
  go_wp2_with fail
  go_loopw [6] (fun i wr => ∃ k : Nat, i = .int .i64 k ∧ k ≤ s.length ∧ Hid (at1 c s = k + at1 c (s.drop k)) ∧ wr = w) (fun i _ => s.length - (intOf i).toNat)
  case atStart => exact ⟨0, rfl, Nat.zero_le _, hid (by simp), rfl⟩
  case round =>
    obtain ⟨k, rfl, hk, hf, rfl⟩ := hrel
    by_cases hlt : k < s.length
    · obtain ⟨x, hx⟩ : ∃ x, s[k] = x := ⟨_, rfl⟩
      have hi : (⟨s.toArray⟩ : ByteArray)[k]'(by show k < s.toArray.size; simpa using hlt) = x := by rw [← hx]; rfl
      have hd := at1_drop (c := c) hlt
      rw [hx] at hd
      by_cases hxc : x = c
      · subst hxc
        rw [if_pos rfl] at hd
        have hat : at1 x s = k := by rw [hf.out, hd]; rfl
        have HR := hid (cut1_at hat hlt)
        have U1 := run_upto s k hk
        have U2 := run_from s (k + 1) (by omega)
        have U3 : (⟨s.toArray⟩ : ByteArray).extract (k + 1) s.length = ⟨(s.drop (k + 1)).toArray⟩ := by
          have := Lib.Pa.extract_from ⟨s.toArray⟩ (k + 1)
          rw [show (⟨s.toArray⟩ : ByteArray).size = s.length by show s.toArray.size = _; simp] at this
          exact this
        have t1 : ((x.toNat : Int) == (cn : Int)) = true := by rw [beq_iff_eq]; omega
        have i1 : IntKind.i64.wrap ((k : Int) + 1) = ((k + 1 : Nat) : Int) := by rw [IntKind.wrap_i64]; omega
        clear hd hf hx hat
        go_wp2_with fail
        refine wp_region_ext (w := wr) (Below.refl _ _) (by kernel_rfl) (by kernel_rfl) ?_
        repeat (go_big_quiet_step (fail))
        refine wpQuiet_nil ?_
        rintro w9 ⟨⟨_, hb9⟩, rfl⟩
        have HB9 := hid hb9
        clear hb9 U1 U2 U3 hi
        go_wp2_with fail
        exact bodyPost_ret (v := .tuple #[.string ⟨(s.take k).toArray⟩, .string ⟨(s.drop (k + 1)).toArray⟩]) (by simp [results, Tryz.results51, go_sem]) rfl ⟨by rw [HR.out], HB9.out⟩
      · rw [if_neg hxc] at hd
        have t1 : ((x.toNat : Int) == (cn : Int)) = false := by
          rw [beq_eq_false_iff_ne]
          intro e
          exact hxc (UInt8.toNat_inj.1 (by omega))
        have HF : Hid (at1 c s = (k + 1) + at1 c (s.drop (k + 1))) := hid (by rw [hf.out, hd]; omega)
        clear hd hf hx
        go_wp2_with fail
        go_roundw
        case rel => exact ⟨k + 1, by go_num, by omega, HF, trivial⟩
        case measure => simp [intOf]; omega
    · have HR : Hid (cut1 c s = (s, [])) := hid (cut1_end (by rw [hf.out, List.drop_eq_nil_of_le (by omega)]; simp [at1]; omega))
      clear hf
      go_wp2_with fail
      exact bodyPost_ret (v := .tuple #[.string ⟨s.toArray⟩, .string ⟨#[]⟩]) (by simp [results, Tryz.results51, go_sem]) rfl ⟨by rw [HR.out], Below.refl _ _⟩
def digFrom (n : Nat) (s : Str) (k : Nat) : Nat := ((s.drop k).take (20 - k)).foldl digN n
theorem digFrom_step {n k : Nat} {s : Str} (h : k < s.length) (h20 : k < 20) : digFrom n s k = digFrom (digN n s[k]) s (k + 1) := by
  unfold digFrom
  rw [List.drop_eq_getElem_cons h, show 20 - k = (20 - (k + 1)) + 1 by omega, List.take_succ_cons, List.foldl_cons]
theorem digFrom_end {n k : Nat} {s : Str} (h : s.length ≤ k ∨ 20 ≤ k) : digFrom n s k = n := by
  unfold digFrom
  rcases h with h | h
  · rw [List.drop_eq_nil_of_le h]; simp
  · rw [show 20 - k = 0 by omega]; simp
theorem digN_lt {n : Nat} {c : UInt8} (h : n < 18446744073709551616) : digN n c < 18446744073709551616 := by
  unfold digN
  split
  · exact Nat.mod_lt _ (by decide)
  · exact h
set_option maxHeartbeats 3200000 in
theorem digF_any (s : Str) (hs : s.length ≤ 100000) (w : World) :
    Calls Tryz.prog 52 #[.string ⟨s.toArray⟩] w fun e w' => e = .returned (.int .u64 (digF s : Nat)) ∧ Below w.heap.size w w' := by
  go_enter Tryz.func52, Tryz.ntmps52
  go_wp2_with fail
  go_loopw [3, 4] (fun vn i wr => ∃ n k : Nat, vn = .int .u64 n ∧ i = .int .i64 k ∧ k ≤ s.length ∧ k ≤ 20 ∧ n < 18446744073709551616 ∧ Hid (digF s = digFrom n s k) ∧ wr = w) (fun _ i _ => s.length - (intOf i).toNat)
  case atStart => exact ⟨0, 0, rfl, rfl, Nat.zero_le _, Nat.zero_le _, by omega, hid (by unfold digFrom digF; simp), rfl⟩
  case round =>
    obtain ⟨n, k, rfl, rfl, hk, hk20, hn, hf, rfl⟩ := hrel
    by_cases hlt : k < s.length
    · by_cases h20 : k < 20
      · have d1 : decide ((k : Int) < 20) = true := decide_eq_true (by omega)
        have d2 : decide (k < 20) = true := decide_eq_true h20
        obtain ⟨x, hx⟩ : ∃ x, s[k] = x := ⟨_, rfl⟩
        have hi : (⟨s.toArray⟩ : ByteArray)[k]'(by show k < s.toArray.size; simpa using hlt) = x := by rw [← hx]; rfl
        have hst := digFrom_step (n := n) hlt h20
        rw [hx] at hst
        have HF := hid (hf.out.trans hst)
        have HL := hid (digN_lt (c := x) hn)
        have hx256 : x.toNat < 256 := x.toNat_lt
        by_cases h48 : 48 ≤ x.toNat
        · have e1 : decide ((x.toNat : Int) ≥ 48) = true := decide_eq_true (by omega)
          have e2 : decide (48 ≤ (x.toNat : Int)) = true := decide_eq_true (by omega)
          have e3 : decide (48 ≤ x.toNat) = true := decide_eq_true h48
          by_cases h57 : x.toNat ≤ 57
          · have e4 : decide ((x.toNat : Int) ≤ 57) = true := decide_eq_true (by omega)
            have e5 : decide (x.toNat ≤ 57) = true := decide_eq_true h57
            have HDN : Hid (((digN n x : Nat) : Int) = ((n : Int) * 10 + ((x.toNat : Int) - 48)) % 18446744073709551616) := hid (by unfold digN; rw [if_pos ⟨h48, h57⟩]; omega)
            clear hst hf hx
            go_wp2_with fail
            go_roundw
            case rel => exact ⟨digN n x, k + 1, by rw [HDN.out, IntKind.wrap_u64, IntKind.wrap_u64]; congr 1; omega, by go_num, by omega, by omega, HL.out, HF, trivial⟩
            case measure => simp [intOf]; omega
          · have e4 : decide ((x.toNat : Int) ≤ 57) = false := decide_eq_false (by omega)
            have e5 : decide (x.toNat ≤ 57) = false := decide_eq_false h57
            have HDN : Hid (digN n x = n) := hid (by unfold digN; rw [if_neg (by omega)])
            clear hst hf hx
            go_wp2_with fail
            go_roundw
            case rel => exact ⟨n, k + 1, rfl, by go_num, by omega, by omega, hn, hid (by rw [HF.out, HDN.out]), trivial⟩
            case measure => simp [intOf]; omega
        · have e1 : decide ((x.toNat : Int) ≥ 48) = false := decide_eq_false (by omega)
          have e2 : decide (48 ≤ (x.toNat : Int)) = false := decide_eq_false (by omega)
          have e3 : decide (48 ≤ x.toNat) = false := decide_eq_false h48
          have HDN : Hid (digN n x = n) := hid (by unfold digN; rw [if_neg (by omega)])
          clear hst hf hx
          go_wp2_with fail
          go_roundw
          case rel => exact ⟨n, k + 1, rfl, by go_num, by omega, by omega, hn, hid (by rw [HF.out, HDN.out]), trivial⟩
          case measure => simp [intOf]; omega
      · have d1 : decide ((k : Int) < 20) = false := decide_eq_false (by omega)
        have d2 : decide (k < 20) = false := decide_eq_false h20
        have HR : Hid (digF s = n) := hid (hf.out.trans (digFrom_end (.inr (by omega))))
        clear hf
        go_wp2_with fail
        go_ret
        exact ⟨by rw [HR.out]; rfl, Below.refl _ _⟩
    · have HR : Hid (digF s = n) := hid (hf.out.trans (digFrom_end (.inl (by omega))))
      clear hf
      go_wp2_with fail
      go_ret
      exact ⟨by rw [HR.out]; rfl, Below.refl _ _⟩
end Go.Proofs.YtppapeoainafbaaGreatDoor

