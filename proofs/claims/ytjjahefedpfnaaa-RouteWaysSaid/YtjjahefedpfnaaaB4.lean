import Derived.Test.YtjjahefedpfnaaaB3
import Derived.Outline
namespace Go.Proofs.Ytjjahefedpfnaaa
open Go.RowKit
theorem pick_val {x n : Int} (hn : 0 < n) : (if x.tmod n < 0 then x.tmod n + n else x.tmod n) = x % n := by
  have h1 := Int.tmod_eq_emod (a := x) (b := n)
  have h2 := Int.emod_nonneg x (show n ≠ 0 by omega)
  have h3 := Int.emod_lt_of_pos x hn
  by_cases hc : 0 ≤ x ∨ n ∣ x
  · rw [if_pos hc] at h1
    rw [h1]; split <;> simp at * <;> omega
  · rw [if_neg hc] at h1
    have h5 : x % n ≠ 0 := fun e => hc (.inr (Int.dvd_of_emod_eq_zero e))
    have h4 : (n.natAbs : Int) = n := by omega
    rw [h1, h4]
    split <;> omega
theorem pick_any (x n : Int) (w : World) (hn : 0 < n) (hn2 : n ≤ 4611686018427387904) (hx : -9223372036854775808 ≤ x) (hx2 : x ≤ 9223372036854775807) :
   Calls Try.prog 16 #[.int .i64 x, .int .i64 n] w fun e w' => e = .returned (.int .i64 (x % n)) ∧ w = w' := by
  have h1 : decide (n < 1) = false := by simp; omega
  have h0 : (n == 0) = false := by rw [beq_eq_false_iff_ne]; omega
  have hv := pick_val (x := x) hn
  have hlt := Int.tmod_lt_of_pos x hn
  have hgt : -n < x.tmod n := by
    have := Int.tmod_lt_of_pos (-x) hn
    rw [Int.neg_tmod] at this; omega
  have hwr : IntKind.i64.wrap (x.tmod n) = x.tmod n := IntWalk.i64_in _ (by omega)
  have HV := hid hv
  by_cases hneg : x.tmod n < 0
  · have hneg' : decide (x.tmod n < 0) = true := by simpa using hneg
    have hq : x % n = x.tmod n + n := by rw [← hv, if_pos hneg]
    have HQ := hid hq
    clear hv hq
    go_enter Try.func16, Try.ntmps16
    go_wp2
    go_ret
    exact ⟨ret_int HQ.out.symm, rfl⟩
  · have hneg' : decide (x.tmod n < 0) = false := by simpa using hneg
    have hq : x % n = x.tmod n := by rw [← hv, if_neg hneg]
    have HQ := hid hq
    clear hv hq
    go_enter Try.func16, Try.ntmps16
    go_wp2
    go_ret
    exact ⟨ret_int HQ.out.symm, rfl⟩
/-- a row from a place on, up to a place -/
theorem PidRow.from {w : World} {a : Option Addr} {xs : List Pid} (h : PidRow w a xs) {k c : Nat} (hc : xs.length ≤ c) : PidRow w (if c = k then a else a.map (·.add (k * 2))) (xs.drop k) := by
  by_cases hk : k < xs.length
  · rw [if_neg (by omega)]
    obtain ⟨b, off, rfl, hb, hcell⟩ := h.get (by omega)
    refine .inr ⟨b, off + k * 2, by simp [addr_add], hb, fun i hi => ?_⟩
    simp only [List.length_drop] at hi
    have := hcell (k + i) (by omega)
    rw [List.getElem_drop, show off + k * 2 + i * 2 = off + (k + i) * 2 by omega]
    exact this
  · rw [List.drop_eq_nil_of_le (by omega)]; exact .inl rfl
theorem PidRow.upto {w : World} {a : Option Addr} {xs : List Pid} (h : PidRow w a xs) (k : Nat) : PidRow w a (xs.take k) := by
  rcases h with rfl | ⟨b, off, rfl, hb, hcell⟩
  · exact .inl (by simp)
  · refine .inr ⟨b, off, rfl, hb, fun i hi => ?_⟩
    simp only [List.length_take] at hi
    have := hcell i (by omega)
    simpa using this

/-! ### sets as lists -/
theorem mem_keys_union {p : Pid} {L : List (Pid × Unit)} {xs : List Pid} : p ∈ keys (unionL L xs) ↔ p ∈ keys L ∨ p ∈ xs := mem_unionL
theorem keys_union_nd {L : List (Pid × Unit)} {xs : List Pid} (h : (keys L).Nodup) : (keys (unionL L xs)).Nodup := union_keys_nodup xs L h
theorem union_all : ∀ (xs : List Pid) (L : List (Pid × Unit)), (∀ p ∈ xs, p ∈ keys L) → unionL L xs = L ∧ unionN L xs = 0
  | [], L, _ => ⟨rfl, rfl⟩
  | p :: l, L, h => by
    have hp := h p (List.mem_cons_self ..)
    have ha := add1_of_mem hp
    obtain ⟨h1, h2⟩ := union_all l L (fun q hq => h q (List.mem_cons_of_mem _ hq))
    unfold unionL unionN
    rw [ha, if_pos (look_isSome.2 hp)]
    exact ⟨h1, by omega⟩

theorem run_from {a : Option Addr} {n c k : Nat} (h : k ≤ n) (W : World) : (Instr.slice 33 (.slice a n c) (some (.int .i64 k)) none none).run Try.prog W = .ok (.slice (if c = k then a else a.map (·.add (k * 2))) (n - k) (c - k)) W := by
  have hs : ∀ W, (sizeOf 32).run Try.prog W = .ok 2 W := fun W => Try.sizeOf32 W
  simp [Instr.slice, run_underlying Try.underlying33, Instr.sliceBounds, run_sliceBound, hs, Result.andThen, h]
theorem run_upto {a : Option Addr} {n c k : Nat} (h : k ≤ c) (W : World) : (Instr.slice 33 (.slice a n c) none (some (.int .i64 k)) none).run Try.prog W = .ok (.slice (if c = 0 then a else a.map (·.add (0 * 2))) (k - 0) (c - 0)) W := by
  have hs : ∀ W, (sizeOf 32).run Try.prog W = .ok 2 W := fun W => Try.sizeOf32 W
  simp [Instr.slice, run_underlying Try.underlying33, Instr.sliceBounds, run_sliceBound, hs, Result.andThen, h]
theorem PidRow.upto0 {w : World} {a : Option Addr} {xs : List Pid} (h : PidRow w a xs) (k : Nat) {c : Nat} : PidRow w (if c = 0 then a else a.map (·.add (0 * 2))) (xs.take k) := by
  split
  · exact h.upto k
  · have : a.map (·.add (0 * 2)) = a := by
      rcases h.upto k with h1 | ⟨b, off, rfl, _⟩
      · cases a with
        | none => rfl
        | some x => obtain ⟨b, o, s⟩ := x; cases s <;> simp [Addr.add]
      · simp [addr_add]
    rw [this]; exact h.upto k
theorem new_is {a : Option Addr} {c n : Nat} {ys : List Pid} {w : World} (h : Hid (n = ys.length)) (hn : ys.length ≤ 70368744177664) (hrow : PidRow w a ys) :
   Calls Try.prog 34 #[.slice a n c] w fun e w' => ∃ s r, e = .returned (.pointer (some ⟨s, 0, none⟩)) ∧ w.heap.size ≤ s ∧ w.heap.size ≤ r ∧ SetIs w' s r (unionL [] ys) ∧ Below w.heap.size w w' := by
  rw [h.out]; exact new_any a c ys w hn hrow
theorem union_is {s r : Nat} {L : List (Pid × Unit)} {a : Option Addr} {c n : Nat} {ys : List Pid} {w : World} {m : Int} {L' : List (Pid × Unit)} (h : Hid (n = ys.length)) (hm : ((unionN L ys : Nat) : Int) = m) (hL : unionL L ys = L') (hn : ys.length ≤ 70368744177664) (hrow : PidRow w a ys) (hS : SetIs w s r L) :
   Calls Try.prog 39 #[.pointer (some ⟨s, 0, none⟩), .slice a n c] w fun e w' => e = .returned (.int .i64 m) ∧ SetIs w' s r L' ∧ Mut (fun k => k = r) w w' := by
  have := union_any s r L a c ys w hn hrow hS
  rw [hm, hL, ← h.out] at this
  exact this

set_option maxRecDepth 100000 in
set_option maxHeartbeats 3200000 in
theorem psetOrder_any (a : Option Addr) (c : Nat) (xs : List Pid) (cut : Int) (w : World) (hx : PidRow w a xs) (hok : WfPids xs) (hn : xs.length ≤ 17592186044416) (hc : xs.length ≤ c) (hcut : -9223372036854775808 ≤ cut) (hcut2 : cut ≤ 9223372036854775807) :
    Calls Try.prog 8 #[.slice a xs.length c, .int .i64 cut] w fun e w' => e = .returned (.bool true) ∧ Below w.heap.size w w' := by
  by_cases h1 : 60 < xs.length
  · have h1' : decide (60 < (xs.length : Int)) = true := by simp; omega
    go_enter Try.func8, Try.ntmps8
    go_wp2_with (go_at_call 28; refine (awakeSet_any _).mono ?_; rintro e w3 ⟨rfl, hb3⟩)
    go_ret
    exact ⟨rfl, hb3⟩
  · have h1' : decide (60 < (xs.length : Int)) = false := by simp; omega
    obtain ⟨k, hk0⟩ : ∃ k : Nat, cut % ((xs.length : Int) + 1) = (k : Int) := Int.eq_ofNat_of_zero_le (Int.emod_nonneg _ (by omega))
    have hkl : k ≤ xs.length := by have := Int.emod_lt_of_pos cut (show 0 < (xs.length : Int) + 1 by omega); omega
    have HK := hid hk0
    clear hk0
    go_enter Try.func8, Try.ntmps8
    go_wp2_with (go_at_call 16; refine (pick_any _ _ _ (by omega) (by omega) hcut hcut2).mono ?_; rintro e w3 ⟨rfl, rfl⟩; rw [HK.out])
    have hxd := hx.drew
    have hfrom : Hid (∃ (A : Option Addr) (N C : Nat), (∀ W, (Instr.slice 33 (.slice a xs.length c) (some (.int .i64 k)) none none).run Try.prog W = .ok (.slice A N C) W) ∧ N = (xs.drop k).length ∧ ∀ W, PidRow W a xs → PidRow W A (xs.drop k)) := hid ⟨_, _, _, fun W => run_from hkl W, by simp, fun W h => h.from hc⟩
    obtain ⟨A, N, C, hsl, hN, hfr⟩ := hfrom.out
    have HN := hid hN
    have HFR := hid hfr
    have hsl2 : Hid (∃ (A : Option Addr) (C : Nat), (∀ W, (Instr.slice 33 (.slice a xs.length c) none (some (.int .i64 k)) none).run Try.prog W = .ok (.slice A k C) W) ∧ ∀ W, PidRow W a xs → PidRow W A (xs.take k)) := hid ⟨_, _, fun W => run_upto (by omega) W, fun W h => h.upto0 k⟩
    obtain ⟨A2, C2, hsu, hfu⟩ := hsl2.out
    have HFU := hid hfu
    clear hN hfr hfu
    have tok1 : True := trivial
    go_region_with (first
      | (go_at_call 34; have _t := tok1; refine (new_any _ _ xs _ (by omega) hxd).mono ?_; rintro e w4 ⟨s1, r1, rfl, hs1, hr1, hS1, hb4⟩; clear _t tok1)
      | (go_at_call 34; refine (new_is (ys := xs.drop k) HN (by simp; omega) (HFR.out _ (hxd.ext hb4))).mono ?_; rintro e w5 ⟨s2, r2, rfl, hs2, hr2, hS2, hb5⟩))
    all_goals (
      have z4 := hb4.size
      have z5 := hb5.size
      have hS15 := hS1.ext hb5
      have hx5 := (hxd.ext hb4).ext hb5
      have hB5 : Below w.heap.size w w5 := (Below.refl _ _).drew.trans (hb4.trans (hb5.mono z4))
      have l1 := hS1.lt
      have l2 := hS1.map.lt
      simp at hs1 hr1 z4)
    clear hsl HN HFR hfrom hsl2 HK
    obtain ⟨L1, hL1⟩ : ∃ L, unionL (unionL [] (xs.drop k)) (xs.take k) = L := ⟨_, rfl⟩
    obtain ⟨LB, hLB⟩ : ∃ L, unionL L1 xs = L := ⟨_, rfl⟩
    obtain ⟨LA, hLA⟩ : ∃ L, unionL [] xs = L := ⟨_, rfl⟩
    have ndA : (keys LA).Nodup := by rw [← hLA]; exact keys_union_nd (by simp [keys])
    have ndB : (keys LB).Nodup := by rw [← hLB, ← hL1]; exact keys_union_nd (keys_union_nd (keys_union_nd (by simp [keys])))
    have mA : ∀ p, p ∈ keys LA ↔ p ∈ xs := fun p => by rw [← hLA, mem_keys_union]; simp [keys]
    have mB : ∀ p, p ∈ keys LB ↔ p ∈ xs := fun p => by
      rw [← hLB, mem_keys_union, ← hL1, mem_keys_union, mem_keys_union]
      constructor
      · rintro ((((h | h) | h)) | h)
        · simp [keys] at h
        · exact List.mem_of_mem_drop h
        · exact List.mem_of_mem_take h
        · exact h
      · exact fun h => .inr h
    have hperm : (keys LA).Perm (keys LB) := (List.perm_ext_iff_of_nodup ndA ndB).2 fun p => (mA p).trans (mB p).symm
    have okA : ∀ p ∈ keys LA, ok p := fun p hp => hok p ((mA p).1 hp)
    have okB : ∀ p ∈ keys LB, ok p := fun p hp => hok p ((mB p).1 hp)
    have hsort : sortL (keys LA) = sortL (keys LB) := sortL_perm hperm okA
    have hlen : LA.length = LB.length := by have := hperm.length_eq; simpa [keys] using this
    have hlA : LA.length ≤ 60 := by rw [← hLA]; have := (unionL_len xs []).1; simp at this; omega
    obtain ⟨hua, hun⟩ := union_all xs LA (fun p hp => (mA p).2 hp)
    have hkeep : keepL LA xs = LA := List.filter_eq_self.2 fun q hq => by simp [(mA q.1).1 (List.mem_map_of_mem (f := fun x : Pid × Unit => x.1) hq)]
    have NDA := hid ndA
    have NDB := hid ndB
    have OKA := hid okA
    have OKB := hid okB
    have HSORT := hid hsort
    have HLEN := hid hlen
    have HKEEP := hid hkeep
    have HUA := hid hua
    have HUN : Hid (((unionN LA xs : Nat) : Int) = 0) := hid (by rw [hun]; rfl)
    have HL1 := hid hL1
    have HLB := hid hLB
    rw [hLA] at hS15
    have hlB : LB.length ≤ 60 := by omega
    clear ndA ndB mA mB hperm okA okB hsort hlen hua hun hkeep hL1 hLB hLA hS1 hok hxd hx
    go_wp2_with fail
    refine (union_is (ys := xs.take k) (hid (by simp; omega)) rfl HL1.out (by simp; omega) (HFU.out _ hx5) hS2).mono ?_
    rintro e w6 ⟨rfl, hS6, hm6⟩
    have z6 := hm6.size
    have hx6 := hx5.mutMap hm6 hS2.map
    have hA6 := hS15.mut hm6 (by omega) (by omega)
    go_wp2_with fail
    refine (union_is (ys := xs) (hid rfl) rfl HLB.out (by omega) hx6 hS6).mono ?_
    rintro e w7 ⟨rfl, hS7, hm7⟩
    have z7 := hm7.size
    have hx7 := hx6.mutMap hm7 hS6.map
    have hA7 := hA6.mut hm7 (by omega) (by omega)
    have hB7 : Below w.heap.size w w7 := hB5.trans ((hm6.trans hm7).below hB5.size (fun k hk => by omega))
    clear hm6 hm7 hS6 hA6 hx6 hS2 hS15 hx5 hB5 hb4 hb5
    go_wp2_with fail
    refine (list_any _ _ _ _ hA7 NDA.out OKA.out (by omega)).mono ?_
    rintro e w8 ⟨v8, rfl, hown8, hb8⟩
    obtain ⟨a8, c8, rfl, hrow8, -⟩ := hown8.row
    have hA8 := hA7.ext hb8
    have hS8 := hS7.ext hb8
    have hx8 := hx7.ext hb8
    have hB8 : Below w.heap.size w w8 := hB7.trans (hb8.mono hB7.size)
    clear hb8 hA7 hS7 hx7 hB7 hown8
    go_wp2_with fail
    refine (list_any _ _ _ _ hS8 NDB.out OKB.out (by omega)).mono ?_
    rintro e w9 ⟨v9, rfl, hown9, hb9⟩
    obtain ⟨a9, c9, rfl, hrow9, -⟩ := hown9.row
    have hA9 := hA8.ext hb9
    have hS9 := hS8.ext hb9
    have hx9 := hx8.ext hb9
    have hB9 : Below w.heap.size w w9 := hB8.trans (hb9.mono hB8.size)
    have hrow8' := hrow8.ext hb9
    clear hb9 hA8 hS8 hx8 hB8 hown9 hrow8
    go_wp2_with fail
    refine (sameR_is (bm := true) (hid (by rw [HSORT.out]; simp)) (by rw [sortL_length]; simp [keys]; omega) (by rw [sortL_length]; simp [keys]; omega) hrow8' hrow9).mono ?_
    rintro e w10 ⟨rfl, hb10⟩
    have hA10 := hA9.ext hb10
    have hS10 := hS9.ext hb10
    have hx10 := hx9.ext hb10
    have hB10 : Below w.heap.size w w10 := hB9.trans (hb10.mono hB9.size)
    clear hb10 hA9 hS9 hx9 hB9 hrow8' hrow9
    go_wp2_with fail
    refine (len_any _ _ _ _ hA10).mono ?_
    rintro e w11 ⟨rfl, rfl⟩
    go_wp2_with fail
    refine (len_any _ _ _ _ hS10).mono ?_
    rintro e w12 ⟨rfl, rfl⟩
    have hle : ((LA.length : Int) == (LB.length : Int)) = true := by rw [HLEN.out]; simp
    go_wp2_with fail
    refine (union_is (ys := xs) (hid rfl) HUN.out HUA.out (by omega) hx10 hA10).mono ?_
    rintro e w13 ⟨rfl, hA13, hm13⟩
    have hx13 := hx10.mutMap hm13 hA10.map
    have hB13 : Below w.heap.size w _ := hB10.trans (hm13.below hB10.size (fun k hk => by omega))
    go_wp2_with fail
    refine (keep_any _ _ _ _ _ xs _ hA13 NDA.out OKA.out (by omega) (by omega) hx13).mono ?_
    rintro e w14 ⟨rfl, hA14, hm14⟩
    have hB14 : Below w.heap.size w _ := hB13.trans (hm14.below hB13.size (fun k hk => by omega))
    rw [HKEEP.out]
    have hz : (((LA.length : Int) - LA.length) == 0) = true := by simp
    go_wp2_with (go_at_call 28; refine (awakeSet_any _).mono ?_; rintro e w15 ⟨rfl, hb15⟩)
    go_ret
    exact ⟨rfl, hB14.trans (hb15.mono hB14.size)⟩
theorem psetOrder_law (a : Option Addr) (c : Nat) (xs : List Pid) (cut : Int) (w : World) (hx : PidRow w a xs) (hok : WfPids xs) (hb : xs.length ≤ 17592186044416 ∧ xs.length ≤ c) (hcut : -9223372036854775808 ≤ cut ∧ cut ≤ 9223372036854775807) :
    Calls Try.prog 8 #[.slice a xs.length c, .int .i64 cut] w fun e w' => e = .returned (.bool true) ∧ Below w.heap.size w w' :=
  psetOrder_any a c xs cut w hx hok hb.1 hb.2 hcut.1 hcut.2
end Go.Proofs.Ytjjahefedpfnaaa
