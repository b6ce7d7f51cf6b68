/- Parts of the proof: X99 ShelfL X100 X101 X102 X103 X104 XL. -/
import Derived.Deep.LoopGhost
import Derived.WalkMore
import Derived.Test.YtbpfhclcjedkcaaGLayoutGrows5
namespace Go.Proofs.Ytbpfhclcjedkcaa
open Go.RowKit
/-! ### layout: fit -/
theorem fitN_part {b : Bnd} {n : Nat} {ls : LL} {i : Nat} (h : greatL b ls = (i : Int)) : fitN b (n + 1) ls = fitN b n (partL ls i) := by
  show (if 0 ≤ greatL b ls then _ else _) = _
  rw [h, if_pos (by omega), Int.toNat_natCast]
theorem fitN_join {b : Bnd} {n : Nat} {ls : LL} {i : Nat} (hg : greatL b ls < 0) (h : smallL b ls = (i : Int)) : fitN b (n + 1) ls = fitN b n (joinL ls i) := by
  show (if 0 ≤ greatL b ls then _ else if 0 ≤ smallL b ls then _ else _) = _
  rw [if_neg (by omega), h, if_pos (by omega), Int.toNat_natCast]
theorem fitN_stop {b : Bnd} {n : Nat} {ls : LL} (hg : greatL b ls < 0) (h : smallL b ls < 0) : fitN b n ls = ls := by
  cases n with
  | zero => rfl
  | succ n =>
    show (if 0 ≤ greatL b ls then _ else if 0 ≤ smallL b ls then _ else _) = _
    rw [if_neg (by omega), if_neg (by omega)]
theorem perm_total {a b : LL} (h : a.flatten.Perm b.flatten) : total a = total b := by
  rw [← total_flat, ← total_flat]; exact h.length_eq
theorem getD_total (ls : LL) (i : Nat) : (ls.getD i []).length ≤ total ls := by
  by_cases h : i < ls.length
  · have : ls.getD i [] = ls[i] := by simp [List.getD, h]
    rw [this]; exact lens_total ls _ (List.getElem_mem h)
  · have : ls.getD i [] = [] := by simp [List.getD, List.getElem?_eq_none (by omega : ls.length ≤ i)]
    rw [this]; exact Nat.zero_le _
theorem great_ext {w0 : World} {U : ExtW w0} {b : Bnd} {a : Option Addr} {c n : Nat} {ls : LL} {G : Int} (hG : Hid (greatL b ls = G)) (hN : Hid (ls.length = n)) (hn : n ≤ 1000000) (hrow : LeafRow w0 a ls) :
    Calls Try.prog 171 #[.slice a n c, .agg #[.int .i64 b.least, .int .i64 b.most, .int .i64 b.tmo]] U.W fun e w' => e = .returned (.int .i64 G) ∧ ∃ U' : ExtW w0, w' = U'.W := by
  have hN := hN.out; subst hN
  refine (lgreat_any (b := b) (c := c) (by omega) (hrow.ext U.h)).mono ?_
  rintro e w' ⟨rfl, hb⟩
  exact ⟨by rw [hG.out], ⟨_, U.h.trans (hb.mono U.h.size)⟩, rfl⟩
theorem small_ext {w0 : World} {U : ExtW w0} {b : Bnd} {a : Option Addr} {c n : Nat} {ls : LL} {G : Int} (hG : Hid (smallL b ls = G)) (hN : Hid (ls.length = n)) (hn : n ≤ 1000000) (hrow : LeafRow w0 a ls) :
    Calls Try.prog 172 #[.slice a n c, .agg #[.int .i64 b.least, .int .i64 b.most, .int .i64 b.tmo]] U.W fun e w' => e = .returned (.int .i64 G) ∧ ∃ U' : ExtW w0, w' = U'.W := by
  have hN := hN.out; subst hN
  refine (lsmall_any (b := b) (c := c) (by omega) (hrow.ext U.h)).mono ?_
  rintro e w' ⟨rfl, hb⟩
  exact ⟨by rw [hG.out], ⟨_, U.h.trans (hb.mono U.h.size)⟩, rfl⟩
structure FitSt (b : Bnd) (W1 : World) (base : Nat) (v0 : Value) (cs0 : List Sl) (ls0 : LL) (n : Nat) (wr : World) (v : Value) (cs : List Sl) (ls : LL) : Prop where
  own : LLs wr base v cs ls
  full : Full ls
  tot : total ls ≤ 60
  ph : phi b ls ≤ n
  eq : fitN b 200 ls0 = fitN b n ls
  kp : Keeps W1 v0 cs0 wr v cs
theorem LLs.lit {w : World} {base : Nat} {v : Value} {cs : List Sl} {ls : LL} (h : LLs w base v cs ls) (h0 : 0 < ls.length) : ∃ g cap, v = .slice (some ⟨g, 0, none⟩) ls.length cap ∧ cap ≤ 9223372036854775807 := by
  rcases h.own.2 with ⟨-, hn⟩ | ⟨g, cap, cur, rfl, hb, hg, hnc, hcm, hcs, htake⟩
  · omega
  · exact ⟨g, cap, rfl, by unfold maxLen at hcm; omega⟩
set_option maxRecDepth 100000 in
set_option maxHeartbeats 6400000 in
theorem fit_any {w : World} {base : Nat} {b : Bnd} {a : Option Addr} {c : Nat} {cs : List Sl} {ls : LL} {N : Nat} (hN : Hid (ls.length = N)) (hb : bchk b = true) (h : LLs w base (.slice a N c) cs ls) (hf : Full ls) (ht : total ls ≤ 60) (hbase : base ≤ w.heap.size) :
    Calls Try.prog 218 #[.slice a N c, .agg #[.int .i64 b.least, .int .i64 b.most, .int .i64 b.tmo]] w fun e w' => ∃ v' cs', e = .returned v' ∧ LLs w' base v' cs' (fitV b ls) ∧ Keeps w (.slice a N c) cs w' v' cs' := by
  obtain ⟨W1, hW1⟩ : ∃ W1, w.alloc (.cells #[.int .i64 b.least, .int .i64 b.most, .int .i64 b.tmo] 117) = W1 := ⟨_, rfl⟩
  have hB1 : Below w.heap.size w W1 := by rw [← hW1]; exact (Below.refl _ _).alloc (Nat.le_refl _) _
  have hsz1 : w.heap.size < W1.heap.size := by rw [← hW1]; simp
  have hbx : BndBox W1 w.heap.size b := by rw [← hW1]; exact BndBox.made w
  have hno : ¬ inLL (.slice a N c) cs w.heap.size := fun e => by have := (h.inB e).2; omega
  have HNO := hid hno
  have HBX := hid hbx
  have HS : Hid (base ≤ W1.heap.size) := hid (by omega)
  have HSZ := hid hsz1
  have HBC := hid hb
  have HST : FitSt b W1 base (.slice a N c) cs ls 200 W1 (.slice a N c) cs ls := ⟨h.ext hB1, hf, ht, by have := phi_le (b := b) hf; omega, rfl, Keeps.refl _ _ _⟩
  have HB1 := hid hB1
  clear h hf ht hbase hbx hno hb hB1 hsz1
  go_enter Try.func218, Try.ntmps218
  go_wp2
  go_step3
  go_wp2
  go_step3
  go_wp2
  go_loopg [0] 200 (fun n v wr => ∃ cs' ls', FitSt b W1 base (.slice a N c) cs ls n wr v cs' ls')
  case atStart => exact ⟨cs, ls, HST⟩
  case round =>
    obtain ⟨cs', ls', S⟩ := hrel
    have hszr := S.kp.mt.size
    have hbr : base ≤ wr.heap.size := by have := HS.out; omega
    obtain ⟨a', c', hv, hrow⟩ := S.own.row
    obtain ⟨n', hn'⟩ : ∃ n', ls'.length = n' := ⟨_, rfl⟩
    have hl6 : n' ≤ 1000000 := by have := full_len S.full; have := S.tot; omega
    rw [hn'] at hv
    subst hv
    have z0 : wr.cell? ⟨w.heap.size, 0, none⟩ = some (.int .i64 b.least) := (S.kp.mt.cell (p := ⟨w.heap.size, 0, none⟩) HSZ.out HNO.out).trans HBX.out.c0
    have z1 : wr.cell? ⟨w.heap.size, 1, none⟩ = some (.int .i64 b.most) := (S.kp.mt.cell (p := ⟨w.heap.size, 1, none⟩) HSZ.out HNO.out).trans HBX.out.c1
    have z2 : wr.cell? ⟨w.heap.size, 2, none⟩ = some (.int .i64 b.tmo) := (S.kp.mt.cell (p := ⟨w.heap.size, 2, none⟩) HSZ.out HNO.out).trans HBX.out.c2
    have q0 := cell_extw z0
    have q1 := cell_extw z1
    have q2 := cell_extw z2
    have SH := hid S
    have HROW := hid hrow
    have HN' := hid hn'
    have HL6 := hid hl6
    have HBR := hid hbr
    obtain ⟨G, hG⟩ : ∃ G, greatL b ls' = G := ⟨_, rfl⟩
    obtain ⟨M, hM⟩ : ∃ M, smallL b ls' = M := ⟨_, rfl⟩
    have HG := hid hG
    have HM := hid hM
    clear hrow hn' hl6 hbr S z0 z1 z2 hszr hG hM
    by_cases hg0 : 0 ≤ G
    · obtain ⟨i, hi⟩ : ∃ i : Nat, G = (i : Int) := ⟨G.toNat, by omega⟩
      have hp := part_ok (b := b) HBC.out SH.out.full (by rw [HG.out]; exact hg0)
      rw [HG.out, hi, Int.toNat_natCast] at hp
      have hph := SH.out.ph
      obtain ⟨m, hm⟩ : ∃ m, gk = m + 1 := ⟨gk - 1, by omega⟩
      have t1 : decide ((0 : Int) ≤ G) = true := decide_eq_true hg0
      have t2 : decide (G ≥ 0) = true := decide_eq_true hg0
      have HP := hid hp
      have HI := hid hi
      have HMM := hid hm
      clear hp hi hg0 hph hm
      go_wp2
      refine wp_region_ext (Below.refl _ _) (by kernel_rfl) (by kernel_rfl) ?_
      repeat (go_big_quiet_step (first | (with_reducible exact great_ext HG HN' HL6.out HROW.out) | (with_reducible exact small_ext HM HN' HL6.out HROW.out)))
      refine wpQuiet_nil ?_
      rintro _ ⟨⟨w9, hb9⟩, rfl⟩
      have hown9 := SH.out.own.ext hb9
      obtain ⟨g, cap, he, hcap⟩ := SH.out.own.lit (by have := HP.out.2.2.2.1; omega)
      rw [HN'.out] at he
      have hlc := getD_total ls' i
      have C1 := hid (part_any (k := i) HN' (by rw [← he]; exact hown9) (by have := HBR.out; have := hb9.size; omega) (by have := HP.out.2.2.2.1; have := HN'.out; omega) (by have := SH.out.tot; omega) HL6.out)
      rw [← he, ← HI.out] at C1
      have HB9 := hid hb9
      clear hown9 he hlc hb9 hcap
      go_wp2_with fail
      (with_reducible refine C1.out.mono ?_)
      rintro e w2 ⟨v2, cs2, rfl, hs2, hk2⟩
      go_wp2
      go_roundg m
      case measure => have := HMM.out; omega
      case rel =>
        obtain ⟨p1, p2, p3, p4, p5⟩ := HP.out
        exact ⟨cs2, _, hs2, p2, by rw [perm_total p3]; exact SH.out.tot, by have := SH.out.ph; have := HMM.out; omega, by rw [SH.out.eq, HMM.out, fitN_part (HG.out.trans HI.out)], (SH.out.kp.ext HB9.out).trans hk2⟩
    have t1 : decide ((0 : Int) ≤ G) = false := decide_eq_false hg0
    have t2 : decide (G ≥ 0) = false := decide_eq_false hg0
    by_cases hm0 : 0 ≤ M
    · obtain ⟨i, hi⟩ : ∃ i : Nat, M = (i : Int) := ⟨M.toNat, by omega⟩
      have hp := join_ok (b := b) HBC.out SH.out.full (by rw [HM.out]; exact hm0)
      have h2 := small_two (b := b) (ls := ls') (by rw [HM.out]; exact hm0)
      rw [HM.out, hi, Int.toNat_natCast] at hp
      have hph := SH.out.ph
      obtain ⟨m, hm⟩ : ∃ m, gk = m + 1 := ⟨gk - 1, by omega⟩
      have t3 : decide ((0 : Int) ≤ M) = true := decide_eq_true hm0
      have t4 : decide (M ≥ 0) = true := decide_eq_true hm0
      have HP := hid hp
      have HI := hid hi
      have HMM := hid hm
      have HG0 := hid hg0
      have H2 := hid h2
      clear hp hi hg0 hph hm hm0 h2
      go_wp2
      refine wp_region_ext (Below.refl _ _) (by kernel_rfl) (by kernel_rfl) ?_
      repeat (go_big_quiet_step (first | (with_reducible exact great_ext HG HN' HL6.out HROW.out) | (with_reducible exact small_ext HM HN' HL6.out HROW.out)))
      refine wpQuiet_nil ?_
      rintro _ ⟨⟨w9, hb9⟩, rfl⟩
      have hown9 := SH.out.own.ext hb9
      obtain ⟨g, cap, he, hcap⟩ := SH.out.own.lit (by have := H2.out; omega)
      rw [HN'.out] at he
      have C1 := hid (join_any (k := i) HN' (by rw [← he]; exact hown9) (by have := HBR.out; have := hb9.size; omega) (by have := HP.out.2.2.2; have := HN'.out; omega) (by have := H2.out; have := HN'.out; omega) (by have := SH.out.tot; omega) HL6.out hcap)
      rw [← he, ← HI.out] at C1
      have HB9 := hid hb9
      clear hown9 he hb9 hcap
      go_wp2_with fail
      (with_reducible refine C1.out.mono ?_)
      rintro e w2 ⟨v2, cs2, rfl, hs2, hk2⟩
      go_wp2
      go_roundg m
      case measure => have := HMM.out; omega
      case rel =>
        obtain ⟨p1, p2, p3, p4⟩ := HP.out
        exact ⟨cs2, _, hs2, p2, by rw [perm_total p3]; exact SH.out.tot, by have := SH.out.ph; have := HMM.out; omega, by rw [SH.out.eq, HMM.out, fitN_join (by have := HG.out; have := HG0.out; omega) (HM.out.trans HI.out)], (SH.out.kp.ext HB9.out).trans hk2⟩
    · have t3 : decide ((0 : Int) ≤ M) = false := decide_eq_false hm0
      have t4 : decide (M ≥ 0) = false := decide_eq_false hm0
      have HG0 := hid hg0
      have HM0 := hid hm0
      clear hg0 hm0
      go_wp2
      refine wp_region_ext (Below.refl _ _) (by kernel_rfl) (by kernel_rfl) ?_
      repeat (go_big_quiet_step (first | (with_reducible exact great_ext HG HN' HL6.out HROW.out) | (with_reducible exact small_ext HM HN' HL6.out HROW.out)))
      refine wpQuiet_nil ?_
      rintro _ ⟨⟨w9, hb9⟩, rfl⟩
      have hown9 := SH.out.own.ext hb9
      have HB9 := hid hb9
      have HO9 := hid hown9
      clear hb9 hown9
      go_wp2
      try rw [Exit.noGoto_ret]
      go_ret
      refine ⟨_, cs', rfl, ?_, ?_⟩
      · have : fitV b ls = ls' := by
          unfold fitV
          rw [SH.out.eq, fitN_stop (by have := HG.out; have := HG0.out; omega) (by have := HM.out; have := HM0.out; omega)]
        rw [this]; exact HO9.out
      · have k1 := SH.out.kp.ext HB9.out
        refine ⟨(Mut.of_below HB1.out).trans k1.mt, fun q hq => (k1.blk q hq).imp id fun e => by have := HSZ.out; omega⟩
end Go.Proofs.Ytbpfhclcjedkcaa

/- The contract of the library at this program: the numbers, and a field a fact. Printed by the kit. -/
namespace Go.Proofs
open Go.Shelf
def Try.sortLeaf_ren : Go.Shelf.Ren := ⟨fun | 6 => 240 | 15 => 235 | 14 => 255 | 28 => 253 | 29 => 254 | 20 => 262 | 21 => 263 | 22 => 264 | 23 => 265 | 24 => 266 | 25 => 267 | 26 => 268 | 27 => 269 | 46 => 271 | 47 => 258 | 48 => 259 | 49 => 272 | 50 => 273 | 57 => 274 | n => n, fun | 22 => 31 | 24 => 30 | 25 => 271 | 3 => 3 | 39 => 142 | 0 => 0 | 53 => 24 | 55 => 29 | 4 => 4 | 46 => 275 | 45 => 274 | 50 => 224 | 5 => 5 | 9 => 9 | 66 => 283 | 70 => 285 | 76 => 292 | 77 => 293 | n => n, fun | n => n⟩
theorem Try.sortLeaf : Go.Proofs.SlLaysF.n6 Try.prog Try.sortLeaf_ren := {
  mixed := by kernel_rfl
  f6 := ⟨Try.f240.name, by decide, Try.func240.trans (congrArg some (by kernel_rfl))⟩
  f14 := ⟨Try.f255.name, by decide, Try.func255.trans (congrArg some (by kernel_rfl))⟩
  f15 := Try.func235.trans (congrArg some (by kernel_rfl))
  f20 := ⟨Try.f262.name, by decide, Try.func262.trans (congrArg some (by kernel_rfl))⟩
  f21 := ⟨Try.f263.name, by decide, Try.func263.trans (congrArg some (by kernel_rfl))⟩
  f22 := ⟨Try.f264.name, by decide, Try.func264.trans (congrArg some (by kernel_rfl))⟩
  f23 := ⟨Try.f265.name, by decide, Try.func265.trans (congrArg some (by kernel_rfl))⟩
  f24 := ⟨Try.f266.name, by decide, Try.func266.trans (congrArg some (by kernel_rfl))⟩
  f25 := ⟨Try.f267.name, by decide, Try.func267.trans (congrArg some (by kernel_rfl))⟩
  f26 := ⟨Try.f268.name, by decide, Try.func268.trans (congrArg some (by kernel_rfl))⟩
  f27 := ⟨Try.f269.name, by decide, Try.func269.trans (congrArg some (by kernel_rfl))⟩
  f28 := Try.func253.trans (congrArg some (by kernel_rfl))
  f29 := Try.func254.trans (congrArg some (by kernel_rfl))
  f46 := ⟨Try.f271.name, by decide, Try.func271.trans (congrArg some (by kernel_rfl))⟩
  f47 := Try.func258.trans (congrArg some (by kernel_rfl))
  f48 := Try.func259.trans (congrArg some (by kernel_rfl))
  f49 := ⟨Try.f272.name, by decide, Try.func272.trans (congrArg some (by kernel_rfl))⟩
  f50 := ⟨Try.f273.name, by decide, Try.func273.trans (congrArg some (by kernel_rfl))⟩
  f57 := ⟨Try.f274.name, by decide, Try.func274.trans (congrArg some (by kernel_rfl))⟩
  t0 := Try.underlying0
  a0 := Try.isAgg0
  z0 := Try.sizeOf0
  v0 := Try.zeroValue0
  t3 := Try.underlying3
  a3 := Try.isAgg3
  z3 := Try.sizeOf3
  v3 := Try.zeroValue3
  t4 := Try.underlying4
  a4 := Try.isAgg4
  z4 := Try.sizeOf4
  v4 := Try.zeroValue4
  t5 := Try.underlying5
  a5 := Try.isAgg5
  z5 := Try.sizeOf5
  v5 := Try.zeroValue5
  t9 := Try.underlying9
  a9 := Try.isAgg9
  z9 := Try.sizeOf9
  v9 := Try.zeroValue9
  t22 := Try.underlying31
  a22 := Try.isAgg31
  z22 := Try.sizeOf31
  v22 := Try.zeroValue31
  a24 := Try.isAgg30
  z24 := Try.sizeOf30
  t25 := Try.underlying271
  a25 := Try.isAgg271
  z25 := Try.sizeOf271
  v25 := Try.zeroValue271
  t39 := Try.underlying142
  a39 := Try.isAgg142
  z39 := Try.sizeOf142
  v39 := Try.zeroValue142
  t45 := Try.underlying274
  a45 := Try.isAgg274
  z45 := Try.sizeOf274
  v45 := Try.zeroValue274
  t46 := Try.underlying275
  a46 := Try.isAgg275
  z46 := Try.sizeOf275
  v46 := Try.zeroValue275
  t50 := Try.underlying224
  a50 := Try.isAgg224
  z50 := Try.sizeOf224
  v50 := Try.zeroValue224
  t53 := Try.underlying24
  a53 := Try.isAgg24
  z53 := Try.sizeOf24
  v53 := Try.zeroValue24
  t55 := Try.underlying29
  a55 := Try.isAgg29
  z55 := Try.sizeOf29
  v55 := Try.zeroValue29
  t66 := Try.underlying283
  a66 := Try.isAgg283
  z66 := Try.sizeOf283
  v66 := Try.zeroValue283
  t70 := Try.underlying285
  a70 := Try.isAgg285
  z70 := Try.sizeOf285
  v70 := Try.zeroValue285
  t76 := Try.underlying292
  a76 := Try.isAgg292
  z76 := Try.sizeOf292
  v76 := Try.zeroValue292
  t77 := Try.underlying293
  a77 := Try.isAgg293
  z77 := Try.sizeOf293
  v77 := Try.zeroValue293 }
end Go.Proofs

namespace Go.Proofs.Ytbpfhclcjedkcaa
open Go.RowKit
open Go.Sort (grow grow_grow grow_empty putRow putCells Holds SWO heap_grow_old mapBlock onCells)
/-! ### layout: leaves in the members' order -/
theorem Grew.drewN {w w' : World} (h : Grew w w') (n : Nat) : Grew w (w'.drewN n) := h.trans ⟨n, #[], by rw [grow_empty]⟩
set_option maxHeartbeats 400000 in
theorem index_grew (a : Option Addr) (c : Nat) (xs : List Pid) (id inc : Int) (w : World) (hn : xs.length ≤ 70368744177664) (hrow : PidRow w a xs) :
   Calls Try.prog 174 #[.slice a xs.length c, .agg #[.int .u16 id, .int .u32 inc]] w fun e w' => e = .returned (.int .i64 (atIx xs (id, inc))) ∧ Grew w w' := by
  go_enter Try.func174, Try.ntmps174
  go_wp2
  go_loopw [4, 8] (fun r i wr => r = .int .i64 0 ∧ ∃ k : Nat, k ≤ xs.length ∧ i = .int .i64 k ∧ Hid (atIx xs (id, inc) = atFrom (id, inc) (xs.drop k) k) ∧ Grew w wr ∧ wr.cell? ⟨w.heap.size, 0, none⟩ = some (.int .u16 id) ∧ wr.cell? ⟨w.heap.size, 1, none⟩ = some (.int .u32 inc)) (fun _ i _ => xs.length - (intOf i).toNat)
  case atStart => exact ⟨rfl, 0, Nat.zero_le _, rfl, rfl, (Grew.refl _).alloc _, by simp, by simp⟩
  case round =>
    obtain ⟨rfl, k, hk, rfl, ha, hb, c0, c1⟩ := hrel
    by_cases hlt : k < xs.length
    · obtain ⟨b, off, x, y, rfl, hx, d1, d2⟩ := hrow.at hb.below rfl hlt
      have HX := hid hx
      have HB := hid hb
      clear hx hrow hb
      have he := fun w => eql_pid id inc x y w
      go_wp2
      go_quiet (fail)
      all_goals go_wp2
      · have h := ‹id = x ∧ inc = y›
        go_ret
        exact ⟨ret_int (by rw [ha.out, atFrom_drop hlt, if_pos (by rw [← HX.out, h.1, h.2])]), HB.out.drewN _⟩
      · have h := ‹¬id = x ∨ ¬inc = y›
        go_roundw
        case rel => exact ⟨rfl, k + 1, by omega, by go_num, (ha.out.trans (by rw [atFrom_drop hlt, if_neg (by rw [← HX.out]; simp; omega)]) : _), HB.out.drewN _, by simpa using c0, by simpa using c1⟩
        case measure => simp [intOf]; omega
    · go_wp2
      go_ret
      exact ⟨ret_int (by rw [ha.out, atFrom_end (by omega)]), hb⟩
theorem atIx_bounds (ms : List Pid) (p : Pid) : -1 ≤ atIx ms p ∧ atIx ms p ≤ (ms.length : Int) := by
  have : ∀ (l : List Pid) (k : Nat), -1 ≤ atFrom p l k ∧ atFrom p l k ≤ ((k + l.length : Nat) : Int) := by
    intro l
    induction l with
    | nil => intro k; simp [atFrom] <;> omega
    | cons x r ih =>
      intro k
      unfold atFrom
      split
      · simp; omega
      · have := ih (k + 1)
        simp only [List.length_cons]
        omega
  have := this ms 0
  unfold atIx
  simpa using this
theorem PidRow.first {w : World} {a : Option Addr} {x y : Int} {r : List Pid} (h : PidRow w a ((x, y) :: r)) : ∃ b off, a = some ⟨b, off, none⟩ ∧ w.cell? ⟨b, off, none⟩ = some (.int .u16 x) ∧ w.cell? ⟨b, off + 1, none⟩ = some (.int .u32 y) := by
  obtain ⟨b, off, rfl, -, hc⟩ := h.get (by simp)
  have := hc 0 (by simp)
  exact ⟨b, off, rfl, by simpa using this.1, by simpa using this.2⟩
set_option maxRecDepth 100000 in
set_option maxHeartbeats 1600000 in
theorem ordCmp_any {ms : List Pid} {am : Option Addr} {cm g2 c d n k M : Nat} {a b : Option Addr} {l m : List Pid} {w : World} (hM : Hid (ms.length = M)) (hml : M ≤ 1000) (hm : PidRow w am ms) (h2 : w.cell? ⟨g2, 0, none⟩ = some (.slice am M cm)) (hl : PidRow w a l) (hn : l.length = n) (hl0 : l ≠ []) (hmr : PidRow w b m) (hk : m.length = k) (hm0 : m ≠ []) :
    Calls Try.prog 241 #[.slice a n c, .slice b k d, .pointer (some ⟨g2, 0, none⟩)] w fun e w' => e = .returned (.int .i64 (hdIx ms l - hdIx ms m)) ∧ Grew w w' := by
  cases l with
  | nil => exact absurd rfl hl0
  | cons p r =>
  cases m with
  | nil => exact absurd rfl hm0
  | cons q s =>
  obtain ⟨x, y⟩ := p
  obtain ⟨z, u⟩ := q
  obtain ⟨ba, oa, rfl, p1, p2⟩ := hl.first
  obtain ⟨bb, ob, rfl, p3, p4⟩ := hmr.first
  have f0 := cell_greww h2
  have f1 := cell_greww p1
  have f2 := cell_greww p2
  have f3 := cell_greww p3
  have f4 := cell_greww p4
  have t1 : decide (0 < n) = true := decide_eq_true (by rw [← hn]; simp)
  have t2 : decide ((0 : Int) < (n : Int)) = true := decide_eq_true (by rw [← hn]; simp)
  have t3 : decide (0 < k) = true := decide_eq_true (by rw [← hk]; simp)
  have t4 : decide ((0 : Int) < (k : Int)) = true := decide_eq_true (by rw [← hk]; simp)
  have t5 : 0 < n := by rw [← hn]; simp
  have t6 : 0 < k := by rw [← hk]; simp
  have e1 : hdIx ms ((x, y) :: r) = atIx ms (x, y) := rfl
  have e2 : hdIx ms ((z, u) :: s) = atIx ms (z, u) := rfl
  have b1 := atIx_bounds ms (x, y)
  have b2 := atIx_bounds ms (z, u)
  rw [hM.out] at b1 b2
  have n1 : ∀ U : GrewW w, Calls Try.prog 174 #[.slice am M cm, .agg #[.int .u16 x, .int .u32 y]] U.W fun e w' => e = .returned (.int .i64 (atIx ms (x, y))) ∧ ∃ U' : GrewW w, w' = U'.W := fun U => grew_of (by
    have := index_grew am cm ms x y U.W (by rw [hM.out]; omega) (hm.ext U.h.below)
    rw [hM.out] at this; exact this) rfl
  have n2 : ∀ U : GrewW w, Calls Try.prog 174 #[.slice am M cm, .agg #[.int .u16 z, .int .u32 u]] U.W fun e w' => e = .returned (.int .i64 (atIx ms (z, u))) ∧ ∃ U' : GrewW w, w' = U'.W := fun U => grew_of (by
    have := index_grew am cm ms z u U.W (by rw [hM.out]; omega) (hm.ext U.h.below)
    rw [hM.out] at this; exact this) rfl
  rw [e1, e2]
  clear e1 e2 hl hmr hn hk hl0 hm0 hm h2 p1 p2 p3 p4
  revert b1 b2 n1 n2
  generalize atIx ms (x, y) = A
  generalize atIx ms (z, u) = B
  intro b1 b2 n1 n2
  have hw : IntKind.i64.wrap (A - B) = A - B := by rw [IntKind.wrap_i64] <;> omega
  have N1 := hid n1
  have N2 := hid n2
  clear n1 n2 b1 b2 hml
  go_enter Try.func241, Try.ntmps241
  go_wp2
  refine wp_region_grew (w := w) (Grew.refl _) (by kernel_rfl) (by kernel_rfl) ?_
  repeat (go_big_quiet_step (first | (with_reducible exact N1.out _) | (with_reducible exact N2.out _)))
  refine wpQuiet_nil ?_
  rintro w9 ⟨⟨_, hb9⟩, rfl⟩
  go_wp2
  go_ret
  exact ⟨rfl, hb9⟩
/-! the sort of leaves -/
theorem take_putG {α : Type} [Inhabited α] (enc : α → Value) (cur : Array Value) (D : Array α) (n : Nat) (h : D.size ≤ cur.size) (hn : n ≤ D.size) : (putCells enc 0 D cur).toList.take n = (D.toList.take n).map enc := by
  apply List.ext_getElem?
  intro j
  by_cases hj : j < n
  · rw [List.getElem?_take_of_lt hj, Array.getElem?_toList, List.getElem?_map, List.getElem?_take_of_lt hj, Array.getElem?_toList]
    simp [putCells, show j < D.size by omega, show j < cur.size by omega]
  · rw [List.getElem?_take_eq_none (by omega), List.getElem?_eq_none (by simp; omega)]
theorem sortW_block {α : Type} [Inhabited α] {enc : α → Value} {g : Nat} {w : World} {q : Nat} {D : Array α} {os : Array Obj} {cur : Array Value} {e : TypeId} (hg : w.heap[g]? = some (.cells cur e (0, 0))) : (sortWorld enc w g 0 q D os).heap[g]? = some (.cells (putCells enc 0 D cur) e (0, 0)) := by
  have hlt : g < w.heap.size := (Array.getElem?_eq_some_iff.1 hg).1
  unfold sortWorld
  rw [heap_grow_old _ _ (by simpa [putRow, mapBlock, Go.Sort.ahead] using hlt)]
  simp [putRow, mapBlock, Go.Sort.ahead, Array.getElem?_modify, hg, onCells]
theorem sortW_mut {α : Type} [Inhabited α] {enc : α → Value} {g : Nat} {w : World} {q : Nat} {D : Array α} {os : Array Obj} : Mut (fun b => b = g) w (sortWorld enc w g 0 q D os) := by
  refine ⟨rfl, rfl, rfl, by simp [sortWorld, grow, putRow, mapBlock, Go.Sort.ahead], fun k hk hne => ?_⟩
  have : g ≠ k := fun e => hne e.symm
  unfold sortWorld
  rw [heap_grow_old _ _ (by simpa [putRow, mapBlock, Go.Sort.ahead] using hk)]
  simp [putRow, mapBlock, Go.Sort.ahead, Array.getElem?_modify, this]
theorem sortLeaf_any {W : World} {base gl g2 cap cm M : Nat} {am : Option Addr} {ms : List Pid} {cs : List Sl} {ls : LL} (h : LLs W base (.slice (some ⟨gl, 0, none⟩) ls.length cap) cs ls) (hfull : Full ls) (h0 : 0 < ls.length) (hl6 : ls.length ≤ 1000000)
    (hM : Hid (ms.length = M)) (hml : M ≤ 1000) (hm : PidRow W am ms) (hma : ∀ b off, am = some ⟨b, off, none⟩ → b ≠ gl) (h2 : W.cell? ⟨g2, 0, none⟩ = some (.slice am M cm)) (h2g : g2 ≠ gl)
    (hT : ∀ i j (hi : i < ls.length) (hj : j < ls.length), hdIx ms ls[i] = hdIx ms ls[j] → i = j) :
    Calls Try.prog 240 #[.slice (some ⟨gl, 0, none⟩) ls.length cap, .func (.func 241) #[] #[.pointer (some ⟨g2, 0, none⟩)]] W fun e w' => e = .returned (.tuple #[]) ∧ ∃ cs' ls', LLs w' base (.slice (some ⟨gl, 0, none⟩) ls.length cap) cs' ls' ∧ ls'.Perm ls ∧ ls'.Pairwise (fun a b => hdIx ms a ≤ hdIx ms b) ∧ Mut (fun b => b = gl) W w' ∧ ∀ s ∈ cs', s ∈ cs := by
  have hcl := h.len
  haveI : Inhabited (Fin ls.length) := ⟨⟨0, h0⟩⟩
  obtain ⟨enc, henc⟩ : ∃ enc : Fin ls.length → Value, enc = fun i => encS (cs[i.val]'(by rw [hcl]; exact i.isLt)) := ⟨_, rfl⟩
  obtain ⟨cf, hcf⟩ : ∃ cf : Fin ls.length → Fin ls.length → Int, cf = fun i j => hdIx ms ls[i] - hdIx ms ls[j] := ⟨_, rfl⟩
  have hone : OneCell enc := fun i => by rw [henc]; rfl
  have hlt : ∀ i j, ltOf cf i j = decide (hdIx ms ls[i] < hdIx ms ls[j]) := fun i j => by
    unfold ltOf; rw [hcf]; simp only [decide_eq_decide]; omega
  have hO : SWO (ltOf cf) := {
    irrefl := fun x => by rw [hlt]; simp
    trans := fun x y z h1 h2 => by rw [hlt] at *; simp at *; omega
    ntrans := fun x y z h1 h2 => by rw [hlt] at *; simp at *; omega }
  obtain ⟨d, hd⟩ : ∃ d : Array (Fin ls.length), d = (List.finRange ls.length).toArray := ⟨_, rfl⟩
  have hds : d.size = ls.length := by rw [hd]; simp
  have eg : ∀ args w, (callFunc 241 args).run Try.prog w = .ok (.enter 241 args) w := enters_of Try.func241 (by kernel_rfl) rfl
  have hcmp : CmpLays1 Try.prog 241 #[.pointer (some ⟨g2, 0, none⟩)] enc cf gl 0 d.size W := by
    intro m os dk _ x y
    have hmt : Mut (fun b => b = gl) W (sortWorld enc W gl 0 m dk os) := sortW_mut
    have hcx : x.val < cs.length := by rw [hcl]; exact x.isLt
    have hcy : y.val < cs.length := by rw [hcl]; exact y.isLt
    obtain ⟨s, s1, s2⟩ := h.el x.val x.isLt
    obtain ⟨t, t1, t2⟩ := h.el y.val y.isLt
    have es : cs[x.val] = s := by rw [List.getElem?_eq_getElem hcx] at s1; cases s1; rfl
    have et : cs[y.val] = t := by rw [List.getElem?_eq_getElem hcy] at t1; cases t1; rfl
    obtain ⟨a, c, e3, -, r3, -, -⟩ := s2.sl
    obtain ⟨b, c', e4, -, r4, -, -⟩ := t2.sl
    have far : ∀ (u : Sl) (a : Option Addr) (n c : Nat), u ∈ cs → encS u = .slice a n c → ∀ b off, a = some ⟨b, off, none⟩ → ¬ b = gl := by
      intro u a n c hu e b off ea eb
      refine h.out u hu b ?_ (by rw [eb]; rfl)
      rw [← own_encS, e, ea]; rfl
    have hx2 := r3.mutN hmt (far s _ _ _ (List.mem_of_getElem? s1) e3)
    have hy2 := r4.mutN hmt (far t _ _ _ (List.mem_of_getElem? t1) e4)
    have hm2 := hm.mutN hmt hma
    have hg2 := World.block_lt_of_cell? W _ h2
    have h22 := (hmt.cell (p := ⟨g2, 0, none⟩) hg2 h2g).trans h2
    have main := ordCmp_any (c := c) (d := c') hM hml hm2 h22 hx2 rfl (hfull _ (List.getElem_mem x.isLt)) hy2 rfl (hfull _ (List.getElem_mem y.isLt))
    have ea : (#[enc x, enc y] ++ #[.pointer (some ⟨g2, 0, none⟩)] : Array Value) = #[.slice a ls[x.val].length c, .slice b ls[y.val].length c', .pointer (some ⟨g2, 0, none⟩)] := by
      rw [henc]; simp only [es, et, e3, e4]; rfl
    rw [ea]
    refine main.mono ?_
    rintro e w' ⟨rfl, hb⟩
    exact ⟨by rw [hcf]; rfl, hb⟩
  have hH : Holds enc W gl 0 d := by
    intro j hj
    have hj' : j < ls.length := by omega
    obtain ⟨g', cap', s, e, -, -, -, h1, h2, h3, -, -⟩ := h.get hj'
    cases e
    have hjc : j < cs.length := by rw [hcl]; exact hj'
    have hs : cs[j] = s := by rw [List.getElem?_eq_getElem hjc] at h1; cases h1; rfl
    have hdj : d[j]! = ⟨j, hj'⟩ := by rw [getElem!_pos d j hj]; simp [hd]
    rw [Nat.zero_add, hdj, henc]
    simp only [hs]
    exact ⟨h2, h3⟩
  have hTT : ∀ x y, ltOf cf x y = false → ltOf cf y x = false → x = y := fun x y h1 h2 => by
    rw [hlt] at h1 h2
    simp at h1 h2
    exact Fin.ext (hT x.val y.val x.isLt y.isLt (Int.le_antisymm h2 h1))
  have hblk := (h.blk (g := gl) rfl).2
  have hcon := Any.slices_SortFunc_total Try.sortLeaf enc hone cf hO 241 #[.pointer (some ⟨g2, 0, none⟩)] gl 0 cap d W eg hcmp hH hblk (by omega) hTT
  change Calls Try.prog 240 _ _ _ at hcon
  rw [hds] at hcon
  refine hcon.mono ?_
  rintro e w' ⟨rfl, q, os, rfl⟩
  obtain ⟨σ, hσ⟩ : ∃ σ, d.toList.mergeSort (fun x y => !(ltOf cf) y x) = σ := ⟨_, rfl⟩
  rw [hσ]
  have hdl : d.toList = List.finRange ls.length := by rw [hd]
  have hperm : σ.Perm (List.finRange ls.length) := by rw [← hσ, hdl]; exact List.mergeSort_perm _ _
  have hpw : σ.Pairwise fun x y => hdIx ms ls[x] ≤ hdIx ms ls[y] := by
    have := List.pairwise_mergeSort (le := fun x y => !(ltOf cf) y x) (fun a b c h1 h2 => by rw [hlt] at *; simp at *; omega) (fun a b => by rw [hlt, hlt]; simp; omega) d.toList
    rw [hσ] at this
    refine this.imp ?_
    intro a b hab
    rw [hlt] at hab
    simpa using hab
  have hlen : σ.length = ls.length := by rw [hperm.length_eq]; simp
  have hne : σ.Pairwise fun x y => x ≠ y := hperm.nodup_iff.2 (List.nodup_finRange _)
  refine ⟨rfl, σ.map fun i => cs[i.val]'(by rw [hcl]; exact i.isLt), σ.map fun i => ls[i], ?_, ?_, ?_, sortW_mut, ?_⟩
  · have hmt : Mut (fun b => b = gl) W (sortWorld enc W gl 0 q σ.toArray os) := sortW_mut
    refine ⟨⟨by simp, ?_⟩, fun i hi => ?_, fun s hs => ?_, ?_⟩
    · rcases h.own.2 with ⟨e, -⟩ | ⟨g', cap', cur, e, hbb, hgg, hnc, hcm, hcs, htake⟩
      · cases e
      · cases e
        refine .inr ⟨gl, cap, _, by simp [hlen], hbb, sortW_block hgg, by simpa [hlen] using hnc, hcm, by simpa [putCells] using hcs, ?_⟩
        rw [take_putG enc cur σ.toArray _ (by simp [hlen]; omega) (by simp)]
        simp only [List.length_map]
        rw [List.take_of_length_le (by simp), henc, List.map_map]
        rfl
    · have hi' : i < σ.length := by simpa using hi
      obtain ⟨s, s1, s2⟩ := h.el σ[i].val σ[i].isLt
      have hcx : σ[i].val < cs.length := by rw [hcl]; exact σ[i].isLt
      refine ⟨s, by rw [List.getElem?_map, List.getElem?_eq_getElem hi', Option.map_some, ← s1, List.getElem?_eq_getElem hcx], ?_⟩
      simp only [List.getElem_map]
      exact s2.mutN hmt (fun g hg e => by
        rw [own_encS] at hg
        have e : g = gl := e
        exact h.out s (List.mem_of_getElem? s1) g hg (by rw [e]; rfl))
    · obtain ⟨i, -, rfl⟩ := List.mem_map.1 hs
      exact h.out _ (List.getElem_mem _)
    · rw [List.pairwise_map]
      refine hne.imp ?_
      intro i j hij g hg hg'
      have hci : i.val < cs.length := by rw [hcl]; exact i.isLt
      have hcj : j.val < cs.length := by rw [hcl]; exact j.isLt
      rcases Nat.lt_or_gt_of_ne (fun e => hij (Fin.ext e) : i.val ≠ j.val) with hlt | hlt
      · exact List.pairwise_iff_getElem.1 h.apart i.val j.val hci hcj hlt g hg hg'
      · exact List.pairwise_iff_getElem.1 h.apart j.val i.val hcj hci hlt g hg' hg
  · have : (List.finRange ls.length).map (fun i => ls[i]) = ls := by
      apply List.ext_getElem
      · simp
      · intro i h1 h2; simp
    exact (hperm.map _).trans (by rw [this])
  · rw [List.pairwise_map]; exact hpw
  · intro s hs
    obtain ⟨i, -, rfl⟩ := List.mem_map.1 hs
    exact List.getElem_mem _
/-! ordered -/
def mixL (ms : List Pid) (ls : LL) (k : Nat) : LL := (ls.take k).map (commonP ms) ++ ls.drop k
theorem mixL_len (ms : List Pid) (ls : LL) (k : Nat) : (mixL ms ls k).length = ls.length := by unfold mixL; simp; omega
theorem mixL_get {ms : List Pid} {ls : LL} {k : Nat} (h : k < ls.length) : (mixL ms ls k)[k]'(by rw [mixL_len]; exact h) = ls[k] := by
  unfold mixL
  rw [List.getElem_append_right (by simp; omega)]
  simp [show min k ls.length = k by omega]
theorem mixL_set {ms : List Pid} {ls : LL} {k : Nat} (h : k < ls.length) : (mixL ms ls k).set k (commonP ms ls[k]) = mixL ms ls (k + 1) := by
  unfold mixL
  rw [List.drop_eq_getElem_cons h]
  have hl : ((ls.take k).map (commonP ms)).length = k := by simp; omega
  have := set_mid ls[k] (commonP ms ls[k]) (ls.drop (k + 1)) ((ls.take k).map (commonP ms))
  rw [hl] at this
  rw [this, List.take_succ_eq_append_getElem h, List.map_append]
  simp only [List.map_cons, List.map_nil, List.append_assoc, List.cons_append, List.nil_append]
theorem common_n {ms l xs : List Pid} {am a : Option Addr} {cm c M n : Nat} {w : World} (hx : Hid (commonP ms l = xs)) (hM : Hid (ms.length = M)) (hml : M ≤ 1000) (hn : Hid (l.length = n)) (hnl : n ≤ 1000000) (hm : PidRow w am ms) (hl : PidRow w a l) :
    Calls Try.prog 239 #[.slice am M cm, .slice a n c] w fun e w' => ∃ v, e = .returned v ∧ OwnP w' w.heap.size v xs ∧ Below w.heap.size w w' := by
  have h1 := hM.out
  have h2 := hn.out
  subst h1; subst h2
  rw [← hx.out]
  exact common_any am cm ms a c l w (by omega) (by omega) hm hl
set_option maxRecDepth 100000 in
set_option maxHeartbeats 6400000 in
theorem ordered_any {w : World} {base g cap cm M N : Nat} {am : Option Addr} {ms : List Pid} {cs : List Sl} {ls : LL} (hp : Parts ms ls) (hN : Hid (ls.length = N)) (h : LLs w base (.slice (some ⟨g, 0, none⟩) N cap) cs ls) (hbase : base ≤ w.heap.size) (h0 : 0 < N)
    (hM : Hid (ms.length = M)) (hml : M ≤ 1000) (hm : PidRow w am ms) (hma : ∀ b off, am = some ⟨b, off, none⟩ → ¬ inLL (.slice (some ⟨g, 0, none⟩) N cap) cs b ∧ b < w.heap.size) :
    Calls Try.prog 217 #[.slice am M cm, .slice (some ⟨g, 0, none⟩) N cap] w fun e w' => ∃ cs', e = .returned (.slice (some ⟨g, 0, none⟩) N cap) ∧ LLs w' base (.slice (some ⟨g, 0, none⟩) N cap) cs' (ordR ms ls) ∧ Keeps w (.slice (some ⟨g, 0, none⟩) N cap) cs w' (.slice (some ⟨g, 0, none⟩) N cap) cs' := by
  obtain ⟨W1, hW1⟩ : ∃ W1, w.alloc (.cells #[.slice am M cm] 30) = W1 := ⟨_, rfl⟩
  have hB1 : Below w.heap.size w W1 := by rw [← hW1]; exact (Below.refl _ _).alloc (Nat.le_refl _) _
  have hsz1 : w.heap.size < W1.heap.size := by rw [← hW1]; simp
  have hbx : W1.cell? ⟨w.heap.size, 0, none⟩ = some (.slice am M cm) := by rw [← hW1]; simp
  have hno : ¬ inLL (.slice (some ⟨g, 0, none⟩) N cap) cs w.heap.size := fun e => by have := (h.inB e).2; omega
  have hN6 : N ≤ 1000 := by
    have := full_len hp.full
    have h2 := hp.perm.length_eq
    rw [total_flat] at h2
    have := hN.out; have := hM.out
    omega
  have hlens : ∀ l ∈ ls, l.length ≤ 1000 := fun l hl => by
    have := lens_total ls l hl
    have h2 := hp.perm.length_eq
    rw [total_flat] at h2
    have := hM.out
    omega
  have HS1 := hid (show LLs W1 base (.slice (some ⟨g, 0, none⟩) N cap) cs ls from h.ext hB1)
  have HM1 := hid (hm.ext hB1)
  have HMA : Hid (∀ b off, am = some ⟨b, off, none⟩ → ¬ inLL (.slice (some ⟨g, 0, none⟩) N cap) cs b) := hid fun b off e => (hma b off e).1
  have HMB : Hid (∀ b off, am = some ⟨b, off, none⟩ → b < W1.heap.size) := hid fun b off e => by have := (hma b off e).2; omega
  have HNO := hid hno
  have HBX := hid hbx
  have HS : Hid (base ≤ W1.heap.size) := hid (by omega)
  have HSZ := hid hsz1
  have HB1 := hid hB1
  have HP := hid hp
  have HLENS := hid hlens
  have HN6 := hid hN6
  have HML := hid hml
  clear h hp hm hma hbase hbx hno hB1 hsz1 hlens hml
  go_enter Try.func217, Try.ntmps217
  go_wp2
  go_loopw [9] (fun i wr => ∃ (k : Nat) (cs' : List Sl), i = .int .i64 k ∧ k ≤ N ∧ LLs wr base (.slice (some ⟨g, 0, none⟩) N cap) cs' (mixL ms ls k) ∧ Keeps W1 (.slice (some ⟨g, 0, none⟩) N cap) cs wr (.slice (some ⟨g, 0, none⟩) N cap) cs') (fun i _ => N - (intOf i).toNat)
  case atStart => exact ⟨0, cs, rfl, Nat.zero_le _, by simpa [mixL] using HS1.out, Keeps.refl _ _ _⟩
  case round =>
    obtain ⟨k, cs', rfl, hk, hown, hkp⟩ := hrel
    have hszr := hkp.mt.size
    have hmr : PidRow wr am ms := HM1.out.mutN hkp.mt (fun b off e => HMA.out b off e)
    have z0 : wr.cell? ⟨w.heap.size, 0, none⟩ = some (.slice am M cm) := (hkp.mt.cell (p := ⟨w.heap.size, 0, none⟩) HSZ.out HNO.out).trans HBX.out
    have hlm : (mixL ms ls k).length = N := by rw [mixL_len]; exact hN.out
    by_cases hlt : k < N
    · have hkl : k < ls.length := by rw [hN.out]; exact hlt
      have hkm : k < (mixL ms ls k).length := by rw [hlm]; exact hlt
      have hget := (show LLs wr base (.slice (some ⟨g, 0, none⟩) (mixL ms ls k).length cap) cs' (mixL ms ls k) by rw [hlm]; exact hown).get hkm
      obtain ⟨g', cap', s, e0, hcap, hbg, hgw, hcs, hcell, hfr, hownk, hsg⟩ := hget
      cases e0
      rw [mixL_get hkl] at hownk
      obtain ⟨l, hl⟩ : ∃ l, ls[k] = l := ⟨_, rfl⟩
      have hll := HLENS.out ls[k] (List.getElem_mem hkl)
      rw [hl] at hownk hll
      obtain ⟨a, c, he, he2, hrow, hlc, hblk⟩ := hownk.sl
      rw [he] at hcell
      obtain ⟨n, hn⟩ : ∃ n, l.length = n := ⟨_, rfl⟩
      obtain ⟨xs, hx⟩ : ∃ xs, commonP ms l = xs := ⟨_, rfl⟩
      rw [hn] at hcell hll
      have C1 := hid (common_n (cm := cm) (c := c) (hid hx) hM HML.out (hid hn) (by omega) hmr hrow)
      have HOWN := hid hown
      have HKP := hid hkp
      have HCS := hid hcs
      have HL := hid hl
      have HX := hid hx
      have HK := hid hkm
      have HLM := hid hlm
      have HKL := hid hkl
      have HGW := hid hgw
      have HSR : Hid (base ≤ wr.heap.size) := hid (by have := HS.out; omega)
      have HFR := hid hfr
      have HCELL := hid hcell
      clear hown hkp hcs hl hx hkm hlm hgw hbg hownk hsg he he2 hrow hlc hblk hn hmr hszr hll hcap
      go_wp2_with fail
      (with_reducible refine C1.out.mono ?_)
      rintro e w3 ⟨v3, rfl, hown3, hb3⟩
      obtain ⟨a3, c3, e3, e3s, -, -, hblk3⟩ := hown3.sl
      obtain ⟨n3, hn3⟩ : ∃ n3, xs.length = n3 := ⟨_, rfl⟩
      rw [hn3] at e3 e3s hblk3
      subst e3
      have hput := (show LLs wr base (.slice (some ⟨g, 0, none⟩) (mixL ms ls k).length cap) cs' (mixL ms ls k) by rw [HLM.out]; exact HOWN.out).put (s' := (a3, n3, c3)) (l' := xs) (w1 := w3) HK.out HCS.out (Mut.of_below hb3) (hown3.mono2 HSR.out) (fun q hq => .inr (hblk3 q hq).1)
      rw [HLM.out, ← HX.out, ← HL.out, mixL_set HKL.out] at hput
      have hcell3 : ∃ u, w3.cell? ⟨g, k, none⟩ = some u := ⟨_, (hb3.cell (by exact HGW.out)).trans HCELL.out⟩
      obtain ⟨u3, hu3⟩ := hcell3
      have hfr3 : w3.frozen? ⟨g, k, none⟩ = false := (hb3.frozen (by exact HGW.out)).trans HFR.out
      have hkp3 : Keeps W1 (.slice (some ⟨g, 0, none⟩) N cap) cs (w3.setCell ⟨g, k, none⟩ (.slice a3 n3 c3)) (.slice (some ⟨g, 0, none⟩) N cap) (cs'.set k (a3, n3, c3)) := by
        refine HKP.out.trans ⟨(Mut.of_below hb3).trans (mut1.mono fun b _ e => .inl (by have e : b = g := e; rw [e]; rfl)), ?_⟩
        rintro b (hb | ⟨s', hs', hb⟩)
        · exact .inl (.inl hb)
        · rcases List.mem_or_eq_of_mem_set hs' with hs' | rfl
          · exact .inl (.inr ⟨s', hs', hb⟩)
          · exact .inr (hblk3 b hb).1
      have HPUT := hid hput
      have HKP3 := hid hkp3
      clear hput hkp3 hown3 hb3 e3s hblk3 hn3 C1 z0 hfr hcell
      go_wp2
      go_roundw
      case rel => exact ⟨k + 1, _, by go_num, by omega, HPUT.out, HKP3.out⟩
      case measure => simp [intOf]; omega
    · have hkN : k = N := by omega
      subst hkN
      have hmap : mixL ms ls k = ls.map (commonP ms) := by unfold mixL; rw [← hN.out]; simp
      rw [hmap] at hown hlm
      have hfull : Full (ls.map (commonP ms)) := by
        intro c hc e
        obtain ⟨l, hl, rfl⟩ := List.mem_map.1 hc
        have := HP.out.head hl
        rw [e] at this; cases this
      have hT : ∀ i j (hi : i < (ls.map (commonP ms)).length) (hj : j < (ls.map (commonP ms)).length), hdIx ms (ls.map (commonP ms))[i] = hdIx ms (ls.map (commonP ms))[j] → i = j := by
        intro i j hi hj e
        have hi' : i < ls.length := by simpa using hi
        have hj' : j < ls.length := by simpa using hj
        rw [List.getElem_map, List.getElem_map, HP.out.hdIx (List.getElem_mem hi'), HP.out.hdIx (List.getElem_mem hj')] at e
        rcases Nat.lt_trichotomy i j with hlt | hlt | hlt
        · exact absurd (by omega) (List.pairwise_iff_getElem.1 HP.out.keys i j hi' hj' hlt)
        · exact hlt
        · exact absurd (by omega) (List.pairwise_iff_getElem.1 HP.out.keys j i hj' hi' hlt)
      have hgin : inLL (.slice (some ⟨g, 0, none⟩) k cap) cs g := .inl rfl
      have C1 := sortLeaf_any (cm := cm) (g2 := w.heap.size) (show LLs wr base (.slice (some ⟨g, 0, none⟩) (ls.map (commonP ms)).length cap) cs' (ls.map (commonP ms)) by rw [hlm]; exact hown) hfull (by rw [hlm]; exact h0) (by rw [hlm]; have := HN6.out; omega) hM HML.out hmr (fun b off e eb => HMA.out b off e (by rw [eb]; exact hgin)) z0 (fun e => HNO.out (by rw [e]; exact hgin)) hT
      rw [hlm] at C1
      have C1 := hid C1
      have HKP := hid hkp
      clear hown hkp hfull hT hmap hlm hszr hmr z0 hgin hk hlt
      go_wp2_with fail
      (with_reducible refine C1.out.mono ?_)
      rintro e w3 ⟨rfl, cs3, ls3, hs3, hp3, hpw3, hmt3, hsub3⟩
      have hord : ls3 = ordR ms ls := HP.out.ord_eq hp3 hpw3
      have HORD := hid hord
      have HS3 := hid hs3
      have HMT3 := hid hmt3
      have HSUB := hid hsub3
      clear hs3 hp3 hpw3 hmt3 hsub3 hord C1
      go_wp2
      go_ret
      refine ⟨cs3, rfl, by rw [← HORD.out]; exact HS3.out, ?_⟩
      have k2 : Keeps W1 (.slice (some ⟨g, 0, none⟩) k cap) cs w3 (.slice (some ⟨g, 0, none⟩) k cap) cs3 := by
        refine HKP.out.trans ⟨HMT3.out.mono fun b _ e => .inl (by rw [e]; rfl), ?_⟩
        rintro b (hb | ⟨s', hs', hb⟩)
        · exact .inl (.inl hb)
        · exact .inl (.inr ⟨s', HSUB.out s' hs', hb⟩)
      exact ⟨(Mut.of_below HB1.out).trans k2.mt, fun q hq => (k2.blk q hq).imp id fun e => by have := HSZ.out; omega⟩
end Go.Proofs.Ytbpfhclcjedkcaa

namespace Go.Proofs.Ytbpfhclcjedkcaa
open Go.RowKit
/-! ### layout: comers, may, leaders -/
def insAll : List (Int × Unit) → List Pid → List (Int × Unit)
  | S, [] => S
  | S, p :: r => insAll (ins p.1 () S) r
theorem insAll_drop {S : List (Int × Unit)} {xs : List Pid} {k : Nat} (h : k < xs.length) {x y : Int} (hx : (x, y) = xs[k]) : insAll S (xs.drop k) = insAll (ins x () S) (xs.drop (k + 1)) := by
  rw [List.drop_eq_getElem_cons h, ← hx]; rfl
def comeM : List (Int × Unit) → List Pid → Int
  | _, [] => 0
  | S, p :: r => if (look p.1 S).isSome = true then 9 else comeM (ins p.1 () S) r
theorem comeM_drop {S : List (Int × Unit)} {xs : List Pid} {k : Nat} (h : k < xs.length) {x y : Int} (hx : (x, y) = xs[k]) : comeM S (xs.drop k) = if (look x S).isSome = true then 9 else comeM (ins x () S) (xs.drop (k + 1)) := by
  rw [List.drop_eq_getElem_cons h, ← hx]; rfl
theorem keys_ins {S : List (Int × Unit)} {x p : Int} : p ∈ keys (ins x () S) ↔ p = x ∨ p ∈ keys S := by
  rw [← look_isSome, look_ins, ← look_isSome]
  by_cases h : p = x <;> simp [h]
theorem keys_insAll : ∀ {xs : List Pid} {S : List (Int × Unit)} {p : Int}, p ∈ keys (insAll S xs) ↔ p ∈ keys S ∨ p ∈ xs.map (·.1)
  | [], S, p => by simp [insAll]
  | q :: r, S, p => by
    unfold insAll
    rw [keys_insAll, keys_ins]
    simp only [List.map_cons, List.mem_cons]
    constructor
    · rintro ((h | h) | h)
      · exact .inr (.inl h)
      · exact .inl h
      · exact .inr (.inr h)
    · rintro (h | h | h)
      · exact .inl (.inr h)
      · exact .inl (.inl h)
      · exact .inr h
theorem comeM_eq : ∀ {come : List Pid} {S : List (Int × Unit)} {T : List Int}, (∀ x, x ∈ keys S ↔ x ∈ T) → comeM S come = if comeOk T come = true then 0 else 9
  | [], S, T, _ => by simp [comeM, comeOk]
  | p :: r, S, T, h => by
    unfold comeM comeOk
    by_cases hp : p.1 ∈ T
    · rw [if_pos (look_isSome.2 ((h _).2 hp)), if_pos hp, if_neg (by simp)]
    · rw [if_neg (fun e => hp ((h _).1 (look_isSome.1 e))), if_neg hp]
      refine comeM_eq fun x => ?_
      rw [keys_ins, h]
      simp only [List.mem_append, List.mem_singleton]
      exact or_comm
theorem comeM_is (stay come : List Pid) : comeM (insAll [] stay) come = if comeOk (stay.map (·.1)) come = true then 0 else 9 :=
  comeM_eq fun x => by rw [keys_insAll]; simp [keys]
set_option maxRecDepth 100000 in
set_option maxHeartbeats 1600000 in
theorem comers_any {a b : Option Addr} {c d n m : Nat} {xs ys : List Pid} {w : World} {R : Int} (hR : Hid ((if comeOk (xs.map (·.1)) ys = true then 0 else 9) = R)) (hn' : Hid (xs.length = n)) (hm' : Hid (ys.length = m)) (hn : n ≤ 70368744177664) (hm : m ≤ 70368744177664) (hx : PidRow w a xs) (hy : PidRow w b ys) :
    Calls Try.prog 215 #[.slice a n c, .slice b m d] w fun e w' => e = .returned (.int .i64 R) ∧ Below w.heap.size w w' := by
  have h1 := hn'.out
  have h2 := hm'.out
  subst h1; subst h2
  have hmm := @run_makeMap Try.prog
  have HC := hid ((comeM_is xs ys).trans hR.out)
  clear hR
  go_enter Try.func215, Try.ntmps215
  go_wp2
  go_loopw [15] (fun i wr => ∃ (k : Nat) (S : List (Int × Unit)), k ≤ xs.length ∧ i = .int .i64 k ∧ Hid (insAll [] xs = insAll S (xs.drop k)) ∧ Below w.heap.size w wr ∧ MapIs wr w.heap.size e16 eU S) (fun i _ => xs.length - (intOf i).toNat)
  case atStart => exact ⟨0, [], Nat.zero_le _, rfl, rfl, (Below.refl _ _).alloc (Nat.le_refl _) _, MapIs.made _⟩
  case round =>
    obtain ⟨k, S, hk, rfl, ha, hb, hM⟩ := hrel
    by_cases hlt : k < xs.length
    · obtain ⟨b', off, x, y, rfl, hx', d1, d2⟩ := hx.at hb rfl hlt
      have HD := hid (insAll_drop (S := S) hlt hx')
      clear hx' hx hy
      have hB1 : Below w.heap.size w (wr.alloc (.cells #[.int .u16 x, .int .u32 y] 26)) := hb.alloc hb.size _
      go_wp2_with (at_mapUpdate; refine wpList_mapUpdate_is key16_116 Try.underlying221 (hM.alloc _) x () rfl rfl rfl rfl rfl ?_; intro w2 hM2 hbut)
      go_roundw
      case rel => exact ⟨k + 1, _, by omega, by go_num, (ha.out.trans HD.out : _), hB1.trans (hbut.below (Nat.le_refl _)), hM2⟩
      case measure => simp [intOf]; omega
    · have ha2 := ha.out
      rw [List.drop_eq_nil_of_le (by omega)] at ha2
      have ha3 : insAll [] xs = S := ha2
      rw [ha3] at HC
      have HB := hid hb
      clear ha ha2 ha3 hb
      go_wp2
      go_loopw [4, 26] (fun r i wr => r = .int .i64 0 ∧ ∃ (k : Nat) (S' : List (Int × Unit)), k ≤ ys.length ∧ i = .int .i64 k ∧ Hid (comeM S ys = comeM S' (ys.drop k)) ∧ Below w.heap.size w wr ∧ MapIs wr w.heap.size e16 eU S') (fun _ i _ => ys.length - (intOf i).toNat)
      case atStart => exact ⟨rfl, 0, S, Nat.zero_le _, rfl, rfl, HB.out, hM⟩
      case round =>
        obtain ⟨rfl, k, S', hk, rfl, ha, hb, hM'⟩ := hrel
        by_cases hlt : k < ys.length
        · obtain ⟨b', off, x, y, rfl, hy', d1, d2⟩ := hy.at hb rfl hlt
          have HD := hid (comeM_drop (S := S') hlt hy')
          clear hy' hx hy hM
          rename World => wz
          have hB1 : Below w.heap.size w (wz.alloc (.cells #[.int .u16 x, .int .u32 y] 26)) := hb.alloc hb.size _
          have hB2 : Below w.heap.size w ((wz.alloc (.cells #[.int .u16 x, .int .u32 y] 26)).alloc (.cells #[] 222)) := hB1.alloc hB1.size _
          cases hs : (look x S').isSome
          · have HS := hid hs
            clear hs
            go_wp2_with (first
              | (at_lookup; refine wpList_lookup_is key16_116 Try.underlying221 (.agg #[]) zero106 (hM'.alloc _) x _ (look_unit _ _) HS rfl rfl rfl rfl ?_)
              | (at_mapUpdate; refine wpList_mapUpdate_is key16_116 Try.underlying221 ((hM'.alloc _).alloc _) x () rfl rfl rfl rfl rfl ?_; intro w2 hM2 hbut))
            go_roundw
            case rel => exact ⟨rfl, k + 1, _, by omega, by go_num, (ha.out.trans (by rw [HD.out, HS.out]; rfl) : _), hB2.trans (hbut.below (Nat.le_refl _)), hM2⟩
            case measure => simp [intOf]; omega
          · have HS := hid hs
            clear hs
            go_wp2_with (first
              | (at_lookup; refine wpList_lookup_is key16_116 Try.underlying221 (.agg #[]) zero106 (hM'.alloc _) x _ (look_unit _ _) HS rfl rfl rfl rfl ?_))
            go_ret
            exact ⟨ret_int (by rw [← HC.out, ha.out, HD.out, HS.out]; rfl), hB2⟩
        · have ha2 := ha.out
          rw [List.drop_eq_nil_of_le (by omega)] at ha2
          have HA := hid ha2
          clear ha2
          go_wp2
          go_ret
          exact ⟨ret_int (by rw [← HC.out, HA.out]; rfl), hb⟩
/-! may -/
def notMayFrom : List Pid → Nat → Int
  | [], _ => -1
  | p :: r, k => if mayB p = true then notMayFrom r (k + 1) else (k : Int)
theorem notMay_drop {xs : List Pid} {k : Nat} (h : k < xs.length) {x y : Int} (hx : (x, y) = xs[k]) : notMayFrom (xs.drop k) k = if mayB (x, y) = true then notMayFrom (xs.drop (k + 1)) (k + 1) else (k : Int) := by
  rw [List.drop_eq_getElem_cons h, ← hx]; rfl
theorem notMay_is : ∀ (xs : List Pid) (k : Nat), decide (0 ≤ notMayFrom xs k) = !mayAll xs
  | [], k => rfl
  | p :: r, k => by
    have ih := notMay_is r (k + 1)
    have e : mayAll (p :: r) = (mayB p && mayAll r) := rfl
    unfold notMayFrom
    rw [e]
    cases hp : mayB p
    · rw [if_neg (by simp)]; simp <;> omega
    · rw [if_pos rfl, ih]; simp
theorem notMay1_any {x y : Int} {w : World} {r : Bool} (h : Hid (mayB (x, y) = r)) :
    Calls Try.prog 214 #[.agg #[.int .u16 x, .int .u32 y]] w fun e w' => e = .returned (.bool (!r)) ∧ Below w.heap.size w w' := by
  have hB : Below w.heap.size w (w.alloc (.cells #[.int .u16 x, .int .u32 y] 26)) := (Below.refl _ _).alloc (Nat.le_refl _) _
  go_enter Try.func214, Try.ntmps214
  go_wp2_with (go_at_call 105; refine (may_is h).mono ?_; rintro e w1 ⟨rfl, hb1⟩)
  go_ret
  exact ⟨rfl, hB.trans (hb1.mono hB.size)⟩
set_option maxRecDepth 100000 in
set_option maxHeartbeats 800000 in
theorem ixMay_any {a : Option Addr} {c : Nat} {xs : List Pid} {w : World} (hn : xs.length ≤ 70368744177664) (hrow : PidRow w a xs) :
    Calls Try.prog 236 #[.slice a xs.length c, .func (.func 214) #[] #[]] w fun e w' => e = .returned (.int .i64 (notMayFrom xs 0)) ∧ Below w.heap.size w w' := by
  go_enter Try.func236, Try.ntmps236
  go_wp2
  go_loopw [4, 8] (fun r i wr => r = .int .i64 0 ∧ ∃ k : Nat, k ≤ xs.length ∧ i = .int .i64 k ∧ Hid (notMayFrom xs 0 = notMayFrom (xs.drop k) k) ∧ Below w.heap.size w wr) (fun _ i _ => xs.length - (intOf i).toNat)
  case atStart => exact ⟨rfl, 0, Nat.zero_le _, rfl, rfl, Below.refl _ _⟩
  case round =>
    obtain ⟨rfl, k, hk, rfl, ha, hb⟩ := hrel
    by_cases hlt : k < xs.length
    · obtain ⟨bb, off, x, y, rfl, hx, d1, d2⟩ := hrow.at hb rfl hlt
      have HD := hid (notMay_drop hlt hx)
      obtain ⟨r, hr⟩ : ∃ r, mayB (x, y) = r := ⟨_, rfl⟩
      have HR := hid hr
      clear hx hrow hr
      cases r
      case true =>
        go_wp2_with (go_at_call 214; (with_reducible refine (notMay1_any HR).mono ?_); rintro e w1 ⟨rfl, hb1⟩)
        go_roundw
        case rel => exact ⟨rfl, k + 1, by omega, by go_num, (ha.out.trans (by rw [HD.out, HR.out]; rfl) : _), hb.trans (hb1.mono hb.size)⟩
        case measure => simp [intOf]; omega
      case false =>
        go_wp2_with (go_at_call 214; (with_reducible refine (notMay1_any HR).mono ?_); rintro e w1 ⟨rfl, hb1⟩)
        go_ret
        exact ⟨ret_int (by rw [ha.out, HD.out, HR.out]; rfl), hb.trans (hb1.mono hb.size)⟩
    · have ha2 := ha.out
      rw [List.drop_eq_nil_of_le (by omega)] at ha2
      have HA := hid ha2
      clear ha2 ha
      go_wp2
      go_ret
      exact ⟨ret_int (by rw [HA.out]; rfl), hb⟩
theorem lmay_any {a : Option Addr} {c n : Nat} {xs : List Pid} {w : World} {r : Bool} (hr : Hid (mayAll xs = r)) (hN : Hid (xs.length = n)) (hn : n ≤ 70368744177664) (hrow : PidRow w a xs) :
    Calls Try.prog 164 #[.slice a n c] w fun e w' => e = .returned (.bool r) ∧ Below w.heap.size w w' := by
  have hN := hN.out
  subst hN
  have hz := notMay_is xs 0
  have C1 : Hid (Calls Try.prog 213 #[.slice a xs.length c, .func (.func 214) #[] #[]] w fun e w' => e = .returned (.bool (!r)) ∧ Below w.heap.size w w') := by
    have C0 := ixMay_any (c := c) hn hrow
    rw [hr.out] at hz
    obtain ⟨z, hzz⟩ : ∃ z, notMayFrom xs 0 = z := ⟨_, rfl⟩
    rw [hzz] at hz C0
    have t2 : decide (z ≥ 0) = !r := hz
    have C0 := hid C0
    clear hrow hr hzz
    show Calls _ _ _ _ _
    go_enter Try.func213, Try.ntmps213
    go_wp2_with (go_at_call 236; (with_reducible refine C0.out.mono ?_); rintro e w1 ⟨rfl, hb1⟩)
    go_ret
    exact ⟨ret_bool (by first | exact hz | rfl | simp), hb1⟩
  clear hz hr hrow
  cases r
  all_goals
    go_enter Try.func164, Try.ntmps164
    go_wp2_with (go_at_call 213; (with_reducible refine C1.out.mono ?_); rintro e w1 ⟨rfl, hb1⟩)
    go_ret
    exact ⟨rfl, hb1⟩
/-! leaders -/
theorem heads_take_succ {ls : LL} {k : Nat} (h : k < ls.length) {p : Pid} {r : List Pid} (hl : p :: r = ls[k]) : heads (ls.take (k + 1)) = heads (ls.take k) ++ [p] := by
  rw [heads_fm, heads_fm, List.take_succ_eq_append_getElem h, List.filterMap_append, ← hl]
  rfl
theorem keys_add1 {p : Pid} {L : List (Pid × Unit)} : keys (add1 p L) = if p ∈ keys L then keys L else keys L ++ [p] := by
  by_cases h : p ∈ keys L
  · rw [if_pos h, add1_of_mem h]
  · rw [if_neg h, add1_of_not h]; simp [keys]
theorem leadS_drop {ms S : List Pid} {k : Nat} (h : k < ms.length) {p : Pid} (hp : p = ms[k]) : leadS (ms.drop k) S = leadS (ms.drop (k + 1)) (leadStep S p) := by
  rw [List.drop_eq_getElem_cons h, ← hp]; rfl
theorem leaders_end {w w1 : World} {s r M cm : Nat} {am : Option Addr} {ms S : List Pid} {L : List (Pid × Unit)} (hS : SetIs w1 s r L) (hk : keys L = leadS ms S) (hn : (leadS ms S).Nodup) (hok : ∀ p ∈ leadS ms S, ok p) (hl : (leadS ms S).length ≤ 1000) :
    Calls Try.prog 244 #[.pointer (some ⟨s, 0, none⟩)] w1 fun e w' => ∃ v, e = .returned v ∧ OwnP w' w1.heap.size v (sortL (leadS ms S)) ∧ Below w1.heap.size w1 w' := by
  have h5 : (keys L).length = L.length := by simp [keys]
  rw [hk] at h5
  have := list_any s r L w1 hS (by rw [hk]; exact hn) (by rw [hk]; exact hok) (by omega)
  rw [hk] at this
  exact this
set_option maxRecDepth 100000 in
set_option maxHeartbeats 3200000 in
theorem leaders_any {w : World} {am al : Option Addr} {cm cl M N : Nat} {ms : List Pid} {ls : LL} (hM : Hid (ms.length = M)) (hml : M ≤ 1000) (hN : Hid (ls.length = N)) (hnl : N ≤ 1000) (hm : PidRow w am ms) (hl : LeafRow w al ls) (hfull : Full ls) (hhd : (heads ls).Nodup) (hsub : ∀ p ∈ heads ls, p ∈ ms) (hnd : ms.Nodup) (hok : ∀ p ∈ ms, ok p) :
    Calls Try.prog 219 #[.slice am M cm, .slice al N cl] w fun e w' => ∃ v, e = .returned v ∧ OwnP w' w.heap.size v (leadersL ms (heads ls)) ∧ Below w.heap.size w w' := by
  have h1 := hM.out
  have h2 := hN.out
  subst h1; subst h2
  obtain ⟨q1, q2, q3, q4⟩ := leadS_ok ms (fun _ h => h) hhd hsub
  have q5 : (leadS ms (heads ls)).length ≤ 1000 := by have := nodup_len q1 q2; omega
  have QQ := hid (And.intro q1 (And.intro (fun p hp => hok p (q2 p hp)) q5))
  have HHD := hid hhd
  have hgoal : commonP ms (sortL (leadS ms (heads ls))) = leadersL ms (heads ls) := by
    unfold commonP leadersL
    refine List.filter_congr fun x _ => ?_
    rw [decide_eq_decide]; exact mem_sortL
  have HGOAL := hid hgoal
  have hsl : (sortL (leadS ms (heads ls))).length ≤ 1000 := by rw [sortL_length]; exact q5
  have HSL := hid hsl
  have HFULL := hid hfull
  clear hM hN hfull hhd hsub hnd hok q1 q2 q3 q4 q5 hgoal hsl
  go_enter Try.func219, Try.ntmps219
  go_wp2_with (go_at_call 85; refine (new_any none 0 [] _ (by simp) (.inl rfl)).mono ?_; rintro e w1 ⟨s, r, rfl, hs, hr, hS1, hb1⟩)
  go_loopw [13] (fun i wr => ∃ (k : Nat) (L : List (Pid × Unit)), k ≤ ls.length ∧ i = .int .i64 k ∧ SetIs wr s r L ∧ Hid (keys L = heads (ls.take k)) ∧ Below w.heap.size w wr) (fun i _ => ls.length - (intOf i).toNat)
  case atStart => exact ⟨0, _, Nat.zero_le _, rfl, hS1, rfl, hb1⟩
  case round =>
    obtain ⟨k, L, hk, rfl, hS, hK, hb⟩ := hrel
    by_cases hlt : k < ls.length
    · obtain ⟨bb, off, ai, ci, l, rfl, hx, d1, d2⟩ := hl.at hb rfl hlt
      have hne : l ≠ [] := by rw [hx]; exact HFULL.out _ (List.getElem_mem hlt)
      cases l with
      | nil => exact absurd rfl hne
      | cons p r' =>
      obtain ⟨x, y⟩ := p
      obtain ⟨b2, o2, rfl, p1, p2⟩ := d2.first
      obtain ⟨n, hn⟩ : ∃ n, ((x, y) :: r' : List Pid).length = n := ⟨_, rfl⟩
      rw [hn] at d1
      have t1 : decide (0 < n) = true := decide_eq_true (by rw [← hn]; simp)
      have t2 : decide ((0 : Int) < (n : Int)) = true := decide_eq_true (by rw [← hn]; simp)
      have t3 : 0 < n := by rw [← hn]; simp
      have hsucc := heads_take_succ hlt hx
      have hnot : (x, y) ∉ keys L := by
        rw [hK.out]
        intro hm
        have hnd : (heads (ls.take (k + 1))).Nodup := by
          rw [heads_fm]
          have := HHD.out
          rw [heads_fm] at this
          exact this.sublist ((List.take_sublist _ _).filterMap _)
        rw [hsucc, List.nodup_append] at hnd
        exact hnd.2.2 _ hm _ (by simp) rfl
      have HK1 : Hid (keys (add1 (x, y) L) = heads (ls.take (k + 1))) := hid (by rw [keys_add1, if_neg hnot, hK.out, hsucc])
      clear hx hne hn hsucc hnot d2
      go_wp2_with (go_at_call 227; (with_reducible refine (add_any _ _ _ _ _ _ hS).mono ?_); rintro e w2 ⟨rfl, hS2, hm2⟩)
      go_roundw
      case rel => exact ⟨k + 1, _, by omega, by go_num, hS2, HK1, hb.trans (hm2.below hb.size (fun j e => by rw [e]; exact hr))⟩
      case measure => simp [intOf]; omega
    · have hK2 := hK.out
      rw [List.take_of_length_le (by omega)] at hK2
      have HK := hid hK2
      have HB := hid hb
      have HS := hid hS
      clear hK hK2 hb hS
      go_wp2
      go_loopw [25] (fun i wr => ∃ (k : Nat) (L : List (Pid × Unit)), k ≤ ms.length ∧ i = .int .i64 k ∧ SetIs wr s r L ∧ Hid (leadS ms (heads ls) = leadS (ms.drop k) (keys L)) ∧ Below w.heap.size w wr) (fun i _ => ms.length - (intOf i).toNat)
      case atStart => exact ⟨0, L, Nat.zero_le _, rfl, HS.out, hid (by rw [HK.out]; rfl), HB.out⟩
      case round =>
        obtain ⟨k, L', hk, rfl, hS, hK, hb⟩ := hrel
        have hlen : (keys L').length = L'.length := by simp [keys]
        by_cases hlt : k < ms.length
        · obtain ⟨bb, off, x, y, rfl, hx, d1, d2⟩ := hm.at hb rfl hlt
          have hd := leadS_drop (S := keys L') hlt hx
          rename World => wz
          have hB1 : Below w.heap.size w (wz.alloc (.cells #[.int .u16 x, .int .u32 y] 26)) := hb.alloc hb.size _
          have hS1' := hS.alloc (.cells #[.int .u16 x, .int .u32 y] 26)
          by_cases h3 : 3 ≤ L'.length
          · have u1 : decide ((L'.length : Int) ≥ 3) = true := decide_eq_true (by omega)
            have u2 : decide ((3 : Int) ≤ (L'.length : Int)) = true := decide_eq_true (by omega)
            have u3 : decide (3 ≤ L'.length) = true := decide_eq_true h3
            have hfin : keys L' = leadS ms (heads ls) := by rw [hK.out, leadS_full _ (by omega)]
            have C1 := hid (leaders_end (w := w) (cm := 0) (am := none) (M := 0) hS1' hfin QQ.out.1 QQ.out.2.1 QQ.out.2.2)
            have HM1 := hid (hm.ext hB1)
            have HB1 := hid hB1
            clear hx hd hK hfin hlen h3 hS hb hB1 hm
            go_wp2_with (first
              | (go_at_call 87; (with_reducible refine (len_any _ _ _ _ hS1').mono ?_); rintro e w2 ⟨rfl, rfl⟩)
              | (go_at_call 244; (with_reducible refine C1.out.mono ?_); rintro e w3 ⟨v3, rfl, hown3, hb3⟩; obtain ⟨a3, c3, rfl, hr3, -⟩ := hown3.row)
              | (go_at_call 239; refine (common_any _ _ ms _ _ _ _ (by omega) (by have := HSL.out; omega) (HM1.out.ext hb3) hr3).mono ?_; rintro e w4 ⟨v4, rfl, hown4, hb4⟩))
            go_ret
            have hB3 := HB1.out.trans (hb3.mono HB1.out.size)
            exact ⟨v4, rfl, by rw [HGOAL.out] at hown4; exact hown4.mono2 hB3.size, hB3.trans (hb4.mono hB3.size)⟩
          · have u1 : decide ((L'.length : Int) ≥ 3) = false := decide_eq_false (by omega)
            have u2 : decide ((3 : Int) ≤ (L'.length : Int)) = false := decide_eq_false (by omega)
            have u3 : decide (3 ≤ L'.length) = false := decide_eq_false h3
            have HK2 : Hid (leadS ms (heads ls) = leadS (ms.drop (k + 1)) (keys (add1 (x, y) L'))) := hid (by
              rw [hK.out, hd]
              unfold leadStep
              rw [if_neg (by omega), keys_add1])
            have HB1 := hid hB1
            clear hx hd hK hlen h3 hS hb hB1 hm
            go_wp2_with (first
              | (go_at_call 87; (with_reducible refine (len_any _ _ _ _ hS1').mono ?_); rintro e w2 ⟨rfl, rfl⟩)
              | (go_at_call 227; (with_reducible refine (add_any _ _ _ _ _ _ hS1').mono ?_); rintro e w3 ⟨rfl, hS3, hm3⟩))
            go_roundw
            case rel => exact ⟨k + 1, _, by omega, by go_num, hS3, HK2, HB1.out.trans (hm3.below HB1.out.size (fun j e => by rw [e]; exact hr))⟩
            case measure => simp [intOf]; omega
        · have hK2 := hK.out
          rw [List.drop_eq_nil_of_le (by omega)] at hK2
          have hfin : keys L' = leadS ms (heads ls) := hK2.symm
          have C1 := hid (leaders_end (w := w) (cm := 0) (am := none) (M := 0) hS hfin QQ.out.1 QQ.out.2.1 QQ.out.2.2)
          rename World => wz
          have HM1 := hid (hm.ext hb)
          have HB1 := hid hb
          clear hK hK2 hfin hS hb hm
          go_wp2_with (first
            | (go_at_call 244; (with_reducible refine C1.out.mono ?_); rintro e w3 ⟨v3, rfl, hown3, hb3⟩; obtain ⟨a3, c3, rfl, hr3, -⟩ := hown3.row)
            | (go_at_call 239; refine (common_any _ _ ms _ _ _ _ (by omega) (by have := HSL.out; omega) (HM1.out.ext hb3) hr3).mono ?_; rintro e w4 ⟨v4, rfl, hown4, hb4⟩))
          go_ret
          have hB3 := HB1.out.trans (hb3.mono HB1.out.size)
          exact ⟨v4, rfl, by rw [HGOAL.out] at hown4; exact hown4.mono2 hB3.size, hB3.trans (hb4.mono hB3.size)⟩
end Go.Proofs.Ytbpfhclcjedkcaa

namespace Go.Proofs.Ytbpfhclcjedkcaa
open Go.RowKit
/-! ### layout: build -/
theorem Keeps.safe {w w' : World} {v v' : Value} {cs cs' : List Sl} (hk : Keeps w v cs w' v' cs') {q : Nat} (hq : q < w.heap.size) (hn : ¬ inLL v cs q) : ¬ inLL v' cs' q := fun e => by
  rcases hk.blk q e with e | e
  · exact hn e
  · omega
theorem Keeps.cell {w w' : World} {v v' : Value} {cs cs' : List Sl} (hk : Keeps w v cs w' v' cs') {p : Addr} (hq : p.block < w.heap.size) (hn : ¬ inLL v cs p.block) : w'.cell? p = w.cell? p := hk.mt.cell hq hn
theorem LLs.notIn {w : World} {base : Nat} {v : Value} {cs : List Sl} {ls : LL} (h : LLs w base v cs ls) {q : Nat} (hq : w.heap.size ≤ q) : ¬ inLL v cs q := fun e => by have := (h.inB e).2; omega
theorem OwnP.made1 (w : World) (x y : Int) {base : Nat} (hb : base ≤ w.heap.size) : OwnP (w.alloc (.cells #[.int .u16 x, .int .u32 y] 26)) base (.slice (some ⟨w.heap.size, 0, none⟩) 1 1) [(x, y)] :=
  ⟨rfl, .inr ⟨w.heap.size, 1, #[.int .u16 x, .int .u32 y], rfl, hb, heap_alloc_new w _, Nat.le_refl _, by unfold maxLen; omega, rfl, rfl⟩⟩
/-- append at an operation of a region that draws: the new slice lies in the old one's block, or in a new one -/
theorem step_appendPat {w : World} {o : Oper} {a : Go.Act} {K : Go.Act → World → Prop} {Q : Exit → Go.Act → World → Prop} {y : Nat → Option Bool} {s x : Operand} {base : Nat} {v : Value} {xs ys : List Pid} {ad : Option Addr} {n c : Nat} (hw : Region.wanted o y = true) (hown : OwnP w base v xs) (hy : PidRow w ad ys) (hn : Hid (ys.length = n))
    (hlen : xs.length + n ≤ 1099511627776) (hbase : base ≤ w.heap.size)
    (ho : o.op = .call { callee := .builtin .append, args := #[s, x], argTypes := #[30, 30] }) (hs : a.eval s = v) (hx : a.eval x = .slice ad n c)
    (h : ∀ v' w', OwnP w' base v' (xs ++ ys) → w.grownBy w' v.ownBlock → (v'.ownBlock = v.ownBlock ∨ v'.ownBlock = some w.heap.size) → K (a.put o.dst v') w') : if Region.wanted o y = true then Oper.wp Try.prog o a w K Q else K (a.put o.dst undef) w := by
  have hn := hn.out; subst hn
  rw [if_pos hw]
  obtain ⟨v', w', hr, h2, h3, h4⟩ := run_appendPat hown (c := c) hy hlen hbase o.type
  exact Lib.wp_append_run w s x 30 30 ho _ _ hs hx v' w' hr (h v' w' h2 h3 h4)
/-- a leaf grows at its end -/
theorem app_put {W0 W : World} {base g cap j N : Nat} {v0 : Value} {cs0 cs : List Sl} {L : LL} {p : Pid} (h : LLs W base (.slice (some ⟨g, 0, none⟩) N cap) cs L) (hN : L.length = N) (hj : j < N) (hk : Keeps W0 v0 cs0 W (.slice (some ⟨g, 0, none⟩) N cap) cs) :
    ∃ a m c y, L[j]? = some y ∧ y.length = m ∧ W.cell? ⟨g, j, none⟩ = some (.slice a m c) ∧ OwnP W base (.slice a m c) y ∧ g < W.heap.size ∧
      ∀ W7, Below W.heap.size W W7 → ∀ v8 w8, OwnP w8 base v8 (y ++ [p]) → W7.grownBy w8 (Value.slice a m c).ownBlock → (v8.ownBlock = (Value.slice a m c).ownBlock ∨ v8.ownBlock = some W7.heap.size) →
        ∃ a8 n8 c8 cs', v8 = .slice a8 n8 c8 ∧ w8.cell? ⟨g, j, none⟩ = some (.slice a m c) ∧ w8.frozen? ⟨g, j, none⟩ = false ∧ LLs (w8.setCell ⟨g, j, none⟩ (.slice a8 n8 c8)) base (.slice (some ⟨g, 0, none⟩) N cap) cs' (L.set j (y ++ [p])) ∧ Keeps W0 v0 cs0 (w8.setCell ⟨g, j, none⟩ (.slice a8 n8 c8)) (.slice (some ⟨g, 0, none⟩) N cap) cs' ∧
          ∀ q : Addr, q.block < W.heap.size → ¬ inLL (.slice (some ⟨g, 0, none⟩) N cap) cs q.block → w8.cell? q = W.cell? q ∧ (w8.setCell ⟨g, j, none⟩ (.slice a8 n8 c8)).cell? q = W.cell? q := by
  subst hN
  obtain ⟨g', cap', s, e0, hcap, hbg, hgw, hcs, hcell, hfr, hown, hsg⟩ := h.get hj
  cases e0
  obtain ⟨a, c, he, he2, hrow, hlc, hblk⟩ := hown.sl
  rw [he] at hcell
  refine ⟨a, L[j].length, c, L[j], List.getElem?_eq_getElem hj, rfl, hcell, by rw [← he]; exact hown, hgw, ?_⟩
  intro W7 hb7 v8 w8 hown8 hg8 hat8
  obtain ⟨a8, c8, e8, e8s, -, -, hblk8⟩ := hown8.sl
  have hsb : ∀ b, (Value.slice a L[j].length c).ownBlock = some b → blkS s = some b := fun b e => by rw [← own_encS, he]; exact e
  have hm78 := grown_mutS hg8
  have hm8 : Mut (fun b => blkS s = some b) W w8 := (Mut.of_below hb7).trans (by
    refine ⟨hm78.os, hm78.tape, hm78.output, hm78.size, fun k hk hf => hm78.block k hk fun e => hf (hsb k e)⟩)
  have hsm : s ∈ cs := List.mem_of_getElem? hcs
  have hput := h.put (s' := (a8, (L[j] ++ [p]).length, c8)) (l' := L[j] ++ [p]) hj hcs hm8 (by rw [← e8s]; exact hown8) (fun q hq => by
    have hq : v8.ownBlock = some q := by rw [← hq, e8]; exact own_encS (a8, (L[j] ++ [p]).length, c8)
    rcases hat8 with e | e
    · exact .inl (hsb q (by rw [← e]; exact hq))
    · rw [hq] at e; cases e; exact .inr hb7.size)
  have hkk : Keeps W (.slice (some ⟨g, 0, none⟩) L.length cap) cs (w8.setCell ⟨g, j, none⟩ (.slice a8 (L[j] ++ [p]).length c8)) (.slice (some ⟨g, 0, none⟩) L.length cap) (cs.set j (a8, (L[j] ++ [p]).length, c8)) := by
    refine ⟨(hm8.mono fun b _ e => .inr ⟨s, hsm, e⟩).trans (mut1.mono fun b _ e => .inl (by have e : b = g := e; rw [e]; rfl)), ?_⟩
    rintro b (hb | ⟨s', hs', hb⟩)
    · exact .inl (.inl hb)
    · rcases List.mem_or_eq_of_mem_set hs' with hs' | rfl
      · exact .inl (.inr ⟨s', hs', hb⟩)
      · have hq : v8.ownBlock = some b := by rw [← hb, e8]; exact own_encS (a8, (L[j] ++ [p]).length, c8)
        rcases hat8 with e | e
        · exact .inl (.inr ⟨s, hsm, hsb b (by rw [← e]; exact hq)⟩)
        · rw [hq] at e; cases e; exact .inr hb7.size
  have hsg' : ¬ blkS s = some g := hsg
  refine ⟨a8, (L[j] ++ [p]).length, c8, _, e8, (hm8.cell (p := ⟨g, j, none⟩) hgw hsg').trans hcell, (hm8.frozen (p := ⟨g, j, none⟩) hgw hsg').trans hfr, hput, hk.trans hkk, ?_⟩
  intro q hq hn
  exact ⟨hm8.cell hq fun e => hn (.inr ⟨s, hsm, e⟩), hkk.mt.cell hq hn⟩
/-- a leaf of one comes behind all -/
theorem app_leaf {W0 W : World} {base : Nat} {v0 v v' : Value} {cs0 cs : List Sl} {w' : World} {L : LL} {x y : Int} {q : Nat} (h : LLs W base v cs L) (hk : Keeps W0 v0 cs0 W v cs) (hq : W0.heap.size ≤ q) (hs : W0.heap.size ≤ W.heap.size) (hown : LLs w' base v' (cs ++ [(some ⟨q, 0, none⟩, 1, 1)]) (L ++ [[(x, y)]])) (hg : W.grownBy w' v.ownBlock) (hat : v'.ownBlock = v.ownBlock ∨ v'.ownBlock = some W.heap.size) :
    Keeps W0 v0 cs0 w' v' (cs ++ [(some ⟨q, 0, none⟩, 1, 1)]) := by
  have hm := grown_mutS hg
  refine ⟨⟨hm.os.trans hk.mt.os, hm.tape.trans hk.mt.tape, hm.output.trans hk.mt.output, Nat.le_trans hs hm.size, fun k hk2 hn => ?_⟩, ?_⟩
  · refine (hm.block k (by omega) fun e => ?_).trans (hk.mt.block k hk2 hn)
    rcases hk.blk k (.inl e) with e | e
    · exact hn e
    · omega
  · rintro b (hb | ⟨s', hs', hb⟩)
    · rcases hat with e | e
      · exact hk.blk b (.inl (by rw [← e]; exact hb))
      · rw [hb] at e; cases e; exact .inr hs
    · rcases List.mem_append.1 hs' with hs' | hs'
      · exact hk.blk b (.inr ⟨s', hs', hb⟩)
      · rw [List.mem_singleton.1 hs'] at hb
        have : q = b := by simpa [blkS] using hb
        exact .inr (by omega)
theorem addAll_succ {ls : LL} {come : List Pid} {k : Nat} (h : k < come.length) {p : Pid} (hp : p = come[k]) : addAll ls (come.take (k + 1)) = addL (addAll ls (come.take k)) p := by
  unfold addAll
  rw [List.take_succ_eq_append_getElem h, List.foldl_append, ← hp]; rfl
theorem addL_some {ls : LL} {p : Pid} {j : Nat} (h : fewL ls (-1) = (j : Int)) {y : List Pid} (hy : ls[j]? = some y) : addL ls p = ls.set j (y ++ [p]) := by
  unfold addL
  rw [h, if_neg (by omega), Int.toNat_natCast]
  have : ls.getD j [] = y := by simp [List.getD, hy]
  rw [this]
theorem addL_none {p : Pid} : addL [] p = [[p]] := rfl
theorem fewest_n {a : Option Addr} {c n : Nat} {ls : LL} {F : Int} {w : World} (hF : Hid (fewL ls (-1) = F)) (hN : Hid (ls.length = n)) (hn : n ≤ 1000000) (hrow : LeafRow w a ls) :
    Calls Try.prog 216 #[.slice a n c] w fun e w' => e = .returned (.int .i64 F) ∧ w = w' := by
  have hN := hN.out
  subst hN
  rw [← hF.out]
  exact fewest_any (by omega) hrow
theorem concat2 {w : World} {g ks kc SN C : Nat} {ay ac : Option Addr} {stay come ms : List Pid} (hms : Hid (stay ++ come = ms)) (hSn : Hid (stay.length = SN)) (hCn : Hid (come.length = C)) (hS : SN ≤ 1000) (hC : C ≤ 1000) (c0 : w.cell? ⟨g, 0, none⟩ = some (.slice ay SN ks)) (c1 : w.cell? ⟨g, 1, none⟩ = some (.slice ac C kc)) (hrs : PidRow w ay stay) (hrc : PidRow w ac come) :
    Calls Try.prog 86 #[.slice (some ⟨g, 0, none⟩) 2 2] w fun e w' => ∃ v, e = .returned v ∧ OwnP w' w.heap.size v ms ∧ Below w.heap.size w w' := by
  have h1 := hSn.out
  have h2 := hCn.out
  have hlt := World.block_lt_of_cell? w _ c0
  have hrow : LeafRow w (some ⟨g, 0, none⟩) [stay, come] := .inr ⟨g, 0, rfl, hlt, fun i hi => by
    match i, hi with
    | 0, _ => exact ⟨ay, ks, by rw [← h1] at c0; simpa using c0, hrs⟩
    | 1, _ => exact ⟨ac, kc, by rw [← h2] at c1; simpa using c1, hrc⟩⟩
  have := concat_any (some ⟨g, 0, none⟩) 2 [stay, come] w (by simp) (by rw [← lens_flatten]; simp; omega) hrow
  have e : [stay, come].flatten = ms := by rw [← hms.out]; simp
  rw [e] at this
  exact this
theorem Mut.far {F G : Nat → Prop} {w w1 w2 : World} (h1 : Mut F w w1) (h2 : Mut G w1 w2) (hG : ∀ k, k < w.heap.size → ¬ G k) : Mut F w w2 :=
  ⟨h2.os.trans h1.os, h2.tape.trans h1.tape, h2.output.trans h1.output, Nat.le_trans h1.size h2.size, fun k hk hn => (h2.block k (Nat.lt_of_lt_of_le hk h1.size) (hG k hk)).trans (h1.block k hk hn)⟩
theorem ViewR.zero (w : World) : ViewR w none none none zeroV := (Stab.zero 0 w).r
/-- a view and what is wrong with it are returned, and only blocks of G were written -/
def BuildRes (V : View) (er : Int) (base : Nat) (G : Nat → Prop) (w : World) (e : Ending) (w' : World) : Prop := ∃ (qm ql qd : Option Addr) (km kl kd : Nat), e = .returned (.tuple #[.agg #[.int .u64 V.id, .slice qm V.ms.length km, .slice ql V.ls.length kl, .slice qd V.ds.length kd], .int .i64 er]) ∧ Stab base w' qm ql qd V ∧ Mut G w w'
theorem BuildRes.zero {er : Int} {base : Nat} {G : Nat → Prop} {w w' : World} (h : Mut G w w') : BuildRes zeroV er base G w (.returned (.tuple #[.agg #[.int .u64 0, .slice none 0 0, .slice none 0 0, .slice none 0 0], .int .i64 er])) w' :=
  ⟨none, none, none, 0, 0, 0, rfl, Stab.zero _ _, h⟩
set_option maxRecDepth 100000 in
set_option maxHeartbeats 12800000 in
theorem build_any {w : World} {base : Nat} {id : Int} {stay come : List Pid} {ls : LL} {b : Bnd} {ay ac al : Option Addr} {ks kc kl SN C N : Nat} {cs : List Sl} {V : View} {er : Int} (hV : Hid (buildV id stay ls come b = (V, er))) (hSn : Hid (stay.length = SN)) (hCn : Hid (come.length = C)) (hNn : Hid (ls.length = N)) (hS : SN ≤ 1000) (hC : C ≤ 1000) (hrs : PidRow w ay stay) (hrc : PidRow w ac come) (hLL : LLs w base (.slice al N kl) cs ls) (hbase : base ≤ w.heap.size) (hp : Parts stay ls) (hids : stay.Pairwise fun p q => p.1 ≠ q.1) (hok : ∀ p ∈ stay ++ come, ok p) (hb : bchk b = true) (hac : ∀ g off, ac = some ⟨g, off, none⟩ → come ≠ [] → ¬ inLL (.slice al N kl) cs g) :
    Calls Try.prog 165 #[.int .u64 id, .slice ay SN ks, .slice al N kl, .slice ac C kc, .agg #[.int .i64 b.least, .int .i64 b.most, .int .i64 b.tmo]] w fun e w' => BuildRes V er base (inLL (.slice al N kl) cs) w e w' := by
  obtain ⟨W2, hW2⟩ : ∃ W2, ((w.alloc (.cells #[.int .i64 b.least, .int .i64 b.most, .int .i64 b.tmo] 117)).alloc (.cells #[.int .u64 0, .slice none 0 0, .slice none 0 0, .slice none 0 0] 33)) = W2 := ⟨_, rfl⟩
  have hB2 : Below w.heap.size w W2 := by rw [← hW2]; exact ((Below.refl _ _).alloc (Nat.le_refl _) _).alloc (by simp) _
  have hz2 : W2.heap.size = w.heap.size + 1 + 1 := by rw [← hW2]; simp
  have hbx : BndBox W2 w.heap.size b := by rw [← hW2]; exact (BndBox.made w).ext ((Below.refl _ _).alloc (Nat.le_refl _) _) (by simp)
  have hvx : BoxV W2 (w.heap.size + 1) (.int .u64 0) (.slice none 0 0) (.slice none 0 0) (.slice none 0 0) := by
    rw [← hW2]
    have := BoxV.made (w.alloc (.cells #[.int .i64 b.least, .int .i64 b.most, .int .i64 b.tmo] 117)) 33 (.int .u64 0) (.slice none 0 0) (.slice none 0 0) (.slice none 0 0)
    simpa using this
  have HB2 := hid hB2
  have HZ2 := hid hz2
  have HVX := hid hvx
  by_cases h9 : comeOk (stay.map (·.1)) come = false
  · have hv : (zeroV, (9 : Int)) = (V, er) := by rw [← hV.out]; unfold buildV; rw [if_pos h9]
    obtain ⟨rfl, rfl⟩ : zeroV = V ∧ 9 = er := by simpa using hv
    have CM := hid (comers_any (c := ks) (d := kc) (R := 9) (hid (by rw [h9]; rfl)) hSn hCn (by omega) (by omega) (hrs.ext hB2) (hrc.ext hB2))
    have t1 : ((9 : Int) != 0) = true := by decide
    clear hV h9 hrs hrc hLL hp hids hok hb hac hbx hvx hB2 hz2 hbase hS hC hv
    go_enter Try.func165, Try.ntmps165
    go_wp2_with fail
    (with_reducible refine CM.out.mono ?_)
    rintro e w3 ⟨rfl, hb3⟩
    obtain ⟨d0, d1, d2, d3, g0, g1, g2, g3⟩ := HVX.out.ext hb3
    have DD := hid ((HVX.out.ext hb3).put (.int .u64 0) (.slice none 0 0) (.slice none 0 0) (.slice none 0 0))
    have HB3 := hid hb3
    clear hb3 CM
    go_wp2_with fail
    obtain ⟨q0, q1, q2, q3, -, -, -, -⟩ := DD.out
    exact bodyPost_ret (v := .tuple #[.agg #[.int .u64 0, .slice none 0 0, .slice none 0 0, .slice none 0 0], .int .i64 9]) (by simp [results, Try.results165, go_sem, q0, q1, q2, q3]) rfl
      (BuildRes.zero (Mut.of_below (below_put4 (HB2.out.trans (HB3.out.mono HB2.out.size)) (by omega))))
  have hco : comeOk (stay.map (·.1)) come = true := by simpa using h9
  have CM := hid (comers_any (c := ks) (d := kc) (R := 0) (hid (by rw [hco]; rfl)) hSn hCn (by omega) (by omega) (hrs.ext hB2) (hrc.ext hB2))
  have t1 : ((0 : Int) != 0) = false := by decide
  obtain ⟨ms, hms⟩ : ∃ ms, stay ++ come = ms := ⟨_, rfl⟩
  obtain ⟨M, hM⟩ : ∃ M, ms.length = M := ⟨_, rfl⟩
  have hMS : SN + C = M := by rw [← hM, ← hms, List.length_append, hSn.out, hCn.out]
  have HMS := hid hms
  have HM := hid hM
  have HRS := hid hrs
  have HRC := hid hrc
  have HLL := hid hLL
  have HAC := hid hac
  have HBX := hid hbx
  have HPA := hid (built_parts hp hids hco)
  have HFULL := hid hp.full
  have HTOTS : Hid (total ls ≤ 1000 ∧ come.length ≤ 1000) := hid ⟨by have := hp.perm.length_eq; rw [total_flat] at this; have := hSn.out; omega, by have := hCn.out; omega⟩
  have HOK := hid hok
  have HBC := hid hb
  have HCO := hid hco
  have HBASE := hid hbase
  clear hrs hrc hLL hp hids hok hb hac hbx hvx hB2 hz2 hbase hms hM
  go_enter Try.func165, Try.ntmps165
  go_wp2_with fail
  (with_reducible refine CM.out.mono ?_)
  rintro e w3 ⟨rfl, hb3⟩
  have HB3 := hid (HB2.out.trans (hb3.mono HB2.out.size))
  have HVX3 := hid (HVX.out.ext hb3)
  have HBX3 := hid (HBX.out.ext hb3 HBX.out.lt)
  have HZ3 : Hid (w.heap.size + 1 < w3.heap.size) := hid (by have := hb3.size; have := HZ2.out; omega)
  have hq4 : Below w.heap.size w (w3.alloc (.cells #[.slice ay SN ks, .slice ac C kc] 30)) := HB3.out.alloc HB3.out.size _
  have CC := hid (concat2 (w := w3.alloc (.cells #[.slice ay SN ks, .slice ac C kc] 30)) (g := w3.heap.size) (ks := ks) (kc := kc) HMS hSn hCn hS hC (by simp) (by simp) (HRS.out.ext hq4) (HRC.out.ext hq4))
  have HQ4 := hid hq4
  clear hb3 CM hq4 hW2
  go_wp2_with fail
  (with_reducible refine CC.out.mono ?_)
  rintro e w5 ⟨v5, rfl, hown5, hb5⟩
  obtain ⟨am, km, e5, -, hrm, hkm, hblkm⟩ := hown5.sl
  rw [HM.out] at e5 hblkm
  subst e5
  have hvx5 := (HVX3.out.ext ((Below.refl _ _).alloc (Nat.le_refl _) (.cells #[.slice ay SN ks, .slice ac C kc] 30))).ext hb5
  have HB5 := hid (HQ4.out.trans (hb5.mono HQ4.out.size))
  have HVX5 := hid hvx5
  have HBX5 := hid ((HBX3.out.ext ((Below.refl _ _).alloc (Nat.le_refl _) (.cells #[.slice ay SN ks, .slice ac C kc] 30)) HBX3.out.lt).ext hb5 (by have := HZ3.out; simp; omega))
  have HRM := hid hrm
  have hz5 : w3.heap.size < w5.heap.size := by have := hb5.size; simp at this; omega
  have HZ5 := hid hz5
  have HBM : Hid (∀ g off, am = some ⟨g, off, none⟩ → w.heap.size ≤ g ∧ g < w5.heap.size ∧ g ≠ w.heap.size + 1) := hid fun g off e => by
    have := hblkm g (by rw [e]; rfl)
    have h2 := HZ3.out
    try simp at this
    omega
  clear hvx5 hrm hown5 hb5 hkm hblkm hz5 CC
  have hDD : ∀ (vm vl vd : Value) (id' : Int), BoxV ((((w5.setCell ⟨w.heap.size + 1, 0, none⟩ (.int .u64 id')).setCell ⟨w.heap.size + 1, 1, none⟩ vm).setCell ⟨w.heap.size + 1, 2, none⟩ vl).setCell ⟨w.heap.size + 1, 3, none⟩ vd) (w.heap.size + 1) (.int .u64 id') vm vl vd := fun vm vl vd id' => HVX5.out.put _ _ _ _
  by_cases h0 : M = 0
  · have hv : (zeroV, (8 : Int)) = (V, er) := by rw [← hV.out]; unfold buildV; rw [if_neg h9, if_pos (by rw [HMS.out, HM.out]; exact h0)]
    obtain ⟨rfl, rfl⟩ : zeroV = V ∧ 8 = er := by simpa using hv
    have u1 : ((M : Int) == 0) = true := by rw [h0]; rfl
    have u2 : decide (M = 0) = true := decide_eq_true h0
    have DD := hid (hDD (.slice none 0 0) (.slice none 0 0) (.slice none 0 0) 0)
    obtain ⟨d0, d1, d2, d3, g0, g1, g2, g3⟩ := HVX5.out
    have H0 := hid h0
    clear hV h9 hDD h0 hMS hv
    go_wp2_with fail
    obtain ⟨q0, q1, q2, q3, -, -, -, -⟩ := DD.out
    exact bodyPost_ret (v := .tuple #[.agg #[.int .u64 0, .slice none 0 0, .slice none 0 0, .slice none 0 0], .int .i64 8]) (by simp [results, Try.results165, go_sem, q0, q1, q2, q3]) rfl
      (BuildRes.zero (Mut.of_below (below_put4 HB5.out (by omega))))
  have u1 : ((M : Int) == 0) = false := by simp; omega
  have u2 : decide (M = 0) = false := decide_eq_false h0
  by_cases h24 : 24 < M
  · have hv : (zeroV, (3 : Int)) = (V, er) := by rw [← hV.out]; unfold buildV; rw [if_neg h9, if_neg (by rw [HMS.out, HM.out]; exact h0), if_pos (by rw [HMS.out, HM.out]; exact h24)]
    obtain ⟨rfl, rfl⟩ : zeroV = V ∧ 3 = er := by simpa using hv
    have x1 : decide ((M : Int) > 24) = true := decide_eq_true (by omega)
    have x2 : decide (24 < M) = true := decide_eq_true h24
    have x3 : decide ((24 : Int) < (M : Int)) = true := decide_eq_true (by omega)
    have DD := hid (hDD (.slice none 0 0) (.slice none 0 0) (.slice none 0 0) 0)
    obtain ⟨d0, d1, d2, d3, g0, g1, g2, g3⟩ := HVX5.out
    have H0 := hid h0
    have H24 := hid h24
    clear hV h9 hDD h0 hMS hv h24
    go_wp2_with fail
    obtain ⟨q0, q1, q2, q3, -, -, -, -⟩ := DD.out
    exact bodyPost_ret (v := .tuple #[.agg #[.int .u64 0, .slice none 0 0, .slice none 0 0, .slice none 0 0], .int .i64 3]) (by simp [results, Try.results165, go_sem, q0, q1, q2, q3]) rfl
      (BuildRes.zero (Mut.of_below (below_put4 HB5.out (by omega))))
  have x1 : decide ((M : Int) > 24) = false := decide_eq_false (by omega)
  have x2 : decide (24 < M) = false := decide_eq_false h24
  have x3 : decide ((24 : Int) < (M : Int)) = false := decide_eq_false (by omega)
  -- all is well
  obtain ⟨hids2, hpa⟩ := HPA.out
  rw [HMS.out] at hids2 hpa
  have htot : total (addAll ls come) = M := by rw [← total_flat, hpa.perm.length_eq]; exact HM.out
  obtain ⟨f1, f2, f3⟩ := fitV_ok HBC.out hpa.full (by omega)
  obtain ⟨F, hF⟩ : ∃ F, fitV b (addAll ls come) = F := ⟨_, rfl⟩
  rw [hF] at f1 f2 f3
  have hpf : Parts ms F := ⟨hpa.nd, f1, f2.trans hpa.perm⟩
  obtain ⟨OR, hOR⟩ : ∃ OR, ordR ms F = OR := ⟨_, rfl⟩
  obtain ⟨DS, hDS⟩ : ∃ DS, leadersL ms (heads OR) = DS := ⟨_, rfl⟩
  have hv : ((⟨id, ms, OR, DS⟩ : View), (0 : Int)) = (V, er) := by
    rw [← hV.out]; unfold buildV
    rw [if_neg h9, if_neg (by rw [HMS.out, HM.out]; exact h0), if_neg (by rw [HMS.out, HM.out]; exact h24), HMS.out, hF, hOR, hDS]
  obtain ⟨rfl, rfl⟩ : (⟨id, ms, OR, DS⟩ : View) = V ∧ 0 = er := by simpa using hv
  have hF0 : 0 < F.length := by
    refine Nat.pos_of_ne_zero fun e => ?_
    have : F = [] := List.length_eq_zero_iff.1 e
    have h2 := hpf.perm.length_eq
    rw [this, List.flatten_nil, List.length_nil] at h2
    have := HM.out
    omega
  have hFl : F.length ≤ 24 := by
    have a1 := full_len f1
    have a2 := perm_total f2
    omega
  have hor := hpf.ord_parts
  have horl : OR.length = F.length := by rw [← hOR]; have := hpf.ord_perm.length_eq; simpa using this
  have horm : ∀ l ∈ OR, l.length ≤ 24 := fun l hl => by
    have a1 := lens_total OR l hl
    have a2 := hor.perm.length_eq
    rw [hOR, total_flat] at a2
    have := HM.out
    omega
  have hhd : (heads OR).Nodup := by rw [← hOR]; exact hpf.heads_nd
  have hhs : ∀ p ∈ heads OR, p ∈ ms := by rw [← hOR]; exact hpf.ord_parts.heads_sub
  have hfo : Full OR := by rw [← hOR]; exact hpf.ord_full
  have hdl : DS.length ≤ 24 := by
    rw [← hDS]
    have := List.length_filter_le (fun p => decide (p ∈ leadS ms (heads OR))) ms
    have e := HM.out
    unfold leadersL
    omega
  have hokm : ∀ p ∈ ms, ok p := fun p hp => HOK.out p (by rw [HMS.out]; exact hp)
  have HPAR := hid hpa
  have HTOT := hid htot
  have HPF := hid hpf
  have HF := hid hF
  have HOR := hid hOR
  have HDS := hid hDS
  have HF0 := hid hF0
  have HFL := hid hFl
  have HORL := hid horl
  have HORM := hid horm
  have HHD := hid hhd
  have HHS := hid hhs
  have HFO := hid hfo
  have HDL := hid hdl
  have HOKM := hid hokm
  have H0 := hid h0
  have H24 := hid h24
  have HSUMM := hid hMS
  have HNS0 : Hid (¬ inLL (.slice al N kl) cs w.heap.size ∧ ¬ inLL (.slice al N kl) cs (w.heap.size + 1)) := hid ⟨HLL.out.notIn (Nat.le_refl _), HLL.out.notIn (by omega)⟩
  have HLL5 := hid (HLL.out.ext HB5.out)
  have HRC5 := hid (HRC.out.ext HB5.out)
  have HS5 : Hid (base ≤ w5.heap.size) := hid (by have := HBASE.out; have := HB5.out.size; omega)
  have HPM : Hid (∀ g off, am = some ⟨g, off, none⟩ → ¬ inLL (.slice al N kl) cs g) := hid fun g off e => HLL.out.notIn (HBM.out g off e).1
  have HC := hid hC
  clear hv hids2 hpa htot f1 f2 f3 hpf hF hOR hDS hF0 hFl hor horl horm hhd hhs hfo hdl hokm hV h9 hco h0 h24 hMS hDD HVX HVX3 HBX HBX3 hS
  go_wp2
  go_loopw [2, 40] (fun v i wr => ∃ (k : Nat) (cs' : List Sl), i = .int .i64 k ∧ k ≤ C ∧ LLs wr base v cs' (addAll ls (come.take k)) ∧ Keeps w5 (.slice al N kl) cs wr v cs') (fun _ i _ => C - (intOf i).toNat)
  case atStart => exact ⟨0, cs, rfl, Nat.zero_le _, HLL5.out, Keeps.refl _ _ _⟩
  case round =>
    obtain ⟨k, cs', rfl, hk, hown, hkp⟩ := hrel
    obtain ⟨a', c', hv, hrow⟩ := hown.row
    obtain ⟨L, hL⟩ : ∃ L, addAll ls (come.take k) = L := ⟨_, rfl⟩
    rw [hL] at hown hv hrow
    obtain ⟨n1, hn1⟩ : ∃ n1, L.length = n1 := ⟨_, rfl⟩
    rw [hn1] at hv
    subst hv
    by_cases hlt : k < C
    · have hkl : k < come.length := by rw [hCn.out]; exact hlt
      have hrc := HRC5.out.mutT hkp.mt (fun g off e hne => HAC.out g off e hne)
      obtain ⟨b', off, x, y, he, hx, d1, d2⟩ := hrc.at (Below.refl _ _) rfl hkl
      subst he
      have hsucc := addAll_succ (ls := ls) hkl hx
      rw [hL] at hsucc
      have hL24 : n1 ≤ 1000000 := by
        have h1 := (addAll_ok (come.take k) (ls := ls) HFULL.out).1
        rw [hL] at h1
        have h2 := full_len h1
        have h3 := (addAll_ok (come.take k) (ls := ls) HFULL.out).2.length_eq
        rw [hL, total_flat, List.length_append, total_flat, List.length_take] at h3
        have := HTOTS.out
        omega
      have hB6 : Below wr.heap.size wr (wr.alloc (.cells #[.int .u16 x, .int .u32 y] 26)) := (Below.refl _ _).alloc (Nat.le_refl _) _
      have hown6 := hown.ext hB6
      have hkp6 := hkp.ext hB6
      have hnoB : ¬ inLL (.slice a' n1 c') cs' wr.heap.size := hown.notIn (Nat.le_refl _)
      rcases few_cases L with ⟨hLn, hf⟩ | ⟨j, hj, hf⟩
      · subst hLn
        have C6 := hid (fewest_n (c := c') (hid hf) (hid hn1) hL24 (hrow.ext hB6))
        have v1 : decide ((-1 : Int) ≥ 0) = false := by decide
        have v2 : decide ((0 : Int) ≤ -1) = false := by decide
        rw [addL_none] at hsucc
        have hs5 := hkp.mt.size
        have hB8 : Below (wr.alloc (.cells #[.int .u16 x, .int .u32 y] 26)).heap.size (wr.alloc (.cells #[.int .u16 x, .int .u32 y] 26)) (((wr.alloc (.cells #[.int .u16 x, .int .u32 y] 26)).alloc (.cells #[.int .u16 x, .int .u32 y] 26)).alloc (.cells #[.slice (some ⟨wr.heap.size + 1, 0, none⟩) 1 1] 30)) := ((Below.refl _ _).alloc (Nat.le_refl _) _).alloc (by simp) _
        have hown8 := hown6.ext hB8
        have hkp8 := hkp6.ext hB8
        have hbs5 := HS5.out
        have ho8 : OwnP (((wr.alloc (.cells #[.int .u16 x, .int .u32 y] 26)).alloc (.cells #[.int .u16 x, .int .u32 y] 26)).alloc (.cells #[.slice (some ⟨wr.heap.size + 1, 0, none⟩) 1 1] 30)) base (encS (some ⟨wr.heap.size + 1, 0, none⟩, 1, 1)) [(x, y)] := by
          have := (OwnP.made1 (wr.alloc (.cells #[.int .u16 x, .int .u32 y] 26)) x y (base := base) (by simp; omega)).ext ((Below.refl _ _).alloc (Nat.le_refl _) (.cells #[.slice (some ⟨wr.heap.size + 1, 0, none⟩) 1 1] 30))
          simpa [encS] using this
        have hc8 : (((wr.alloc (.cells #[.int .u16 x, .int .u32 y] 26)).alloc (.cells #[.int .u16 x, .int .u32 y] 26)).alloc (.cells #[.slice (some ⟨wr.heap.size + 1, 0, none⟩) 1 1] 30)).cell? ⟨wr.heap.size + 1 + 1, 0, none⟩ = some (encS (some ⟨wr.heap.size + 1, 0, none⟩, 1, 1)) := by
          have h : ∀ W : World, (W.alloc (.cells #[.slice (some ⟨wr.heap.size + 1, 0, none⟩) 1 1] 30)).cell? ⟨W.heap.size, 0, none⟩ = some (encS (some ⟨wr.heap.size + 1, 0, none⟩, 1, 1)) := fun W => by simp [encS]
          have h2 := h ((wr.alloc (.cells #[.int .u16 x, .int .u32 y] 26)).alloc (.cells #[.int .u16 x, .int .u32 y] 26))
          have hz : ((wr.alloc (.cells #[.int .u16 x, .int .u32 y] 26)).alloc (.cells #[.int .u16 x, .int .u32 y] 26)).heap.size = wr.heap.size + 1 + 1 := by simp
          rw [hz] at h2
          exact h2
        have hv8 : ∀ p, blkS (some ⟨wr.heap.size + 1, 0, none⟩, 1, 1) = some p → (Value.slice a' n1 c').ownBlock ≠ some p := fun p hp e => by
          have : wr.heap.size + 1 = p := by simpa [blkS] using hp
          have := (hown.blk e).2; omega
        have hu8 : ∀ u ∈ cs', ∀ p, blkS u = some p → blkS (some ⟨wr.heap.size + 1, 0, none⟩, 1, 1) ≠ some p := fun u hu p hp e => by
          have : wr.heap.size + 1 = p := by simpa [blkS] using e
          have := (hown.elB hu hp).2; omega
        have HO8 := hid hown8
        have HK8 := hid hkp8
        have HP8 := hid ho8
        have HC8 := hid hc8
        have HV8 := hid hv8
        have HU8 := hid hu8
        have HSU := hid hsucc
        have HZ8 : Hid (base ≤ (((wr.alloc (.cells #[.int .u16 x, .int .u32 y] 26)).alloc (.cells #[.int .u16 x, .int .u32 y] 26)).alloc (.cells #[.slice (some ⟨wr.heap.size + 1, 0, none⟩) 1 1] 30)).heap.size) := hid (by simp; omega)
        have HZ9 : Hid (w5.heap.size ≤ (((wr.alloc (.cells #[.int .u16 x, .int .u32 y] 26)).alloc (.cells #[.int .u16 x, .int .u32 y] 26)).alloc (.cells #[.slice (some ⟨wr.heap.size + 1, 0, none⟩) 1 1] 30)).heap.size ∧ w5.heap.size ≤ wr.heap.size + 1) := hid (by simp; omega)
        have HHK := hid hk
        clear hown hkp hrow hL hrc hx hsucc hL24 hB6 hown6 hkp6 hnoB hf hB8 hown8 hkp8 ho8 hc8 hv8 hu8 hs5 hbs5 hkl hk
        go_wp2_with fail
        (with_reducible refine C6.out.mono ?_)
        rintro e w7 ⟨rfl, rfl⟩
        clear C6
        go_wp2_with (at_builtin; go_loud (refine wpList_appendLs HO8.out HC8.out HP8.out HV8.out HU8.out (by simp) HZ8.out rfl rfl rfl rfl ?_; intro v9 w9 hls9 hg9 hat9; have hkp9 := app_leaf HO8.out HK8.out (x := x) (y := y) HZ9.out.2 HZ9.out.1 hls9 hg9 hat9; have HL9 := hid hls9; have HK9 := hid hkp9; clear hls9 hg9 hat9 hkp9))
        go_roundw
        case rel => exact ⟨k + 1, _, by go_num, by omega, by rw [HSU.out]; exact HL9.out, HK9.out⟩
        case measure => simp [intOf]; omega
      · have hjn : j < n1 := by rw [← hn1]; exact hj
        obtain ⟨g, cap, hlit, hcap⟩ := hown.lit (by omega)
        rw [hn1] at hlit
        injection hlit with ha' _ hc'
        subst ha'
        have hc2 := hc'.symm
        subst hc2
        obtain ⟨a2, m2, c2, yl, hy, hyl, hcell, hownl, hgw, hap⟩ := app_put (p := (x, y)) hown6 hn1 hjn hkp6
        have C6 := hid (fewest_n (c := cap) (hid hf) (hid hn1) hL24 (hrow.ext hB6))
        have v1 : decide ((j : Int) ≥ 0) = true := decide_eq_true (by omega)
        have v2 : decide ((0 : Int) ≤ (j : Int)) = true := decide_eq_true (by omega)
        obtain ⟨W6, hW6⟩ : ∃ W6, wr.alloc (.cells #[.int .u16 x, .int .u32 y] 26) = W6 := ⟨_, rfl⟩
        obtain ⟨B, hB⟩ : ∃ B, wr.heap.size = B := ⟨_, rfl⟩
        have x0 : W6.cell? ⟨B, 0, none⟩ = some (.int .u16 x) := by rw [← hW6, ← hB]; simp
        have x1' : W6.cell? ⟨B, 1, none⟩ = some (.int .u32 y) := by rw [← hW6, ← hB]; simp
        have hbq : B < W6.heap.size ∧ ¬ inLL (.slice (some ⟨g, 0, none⟩) n1 cap) cs' B := ⟨by rw [← hW6, ← hB]; simp, by rw [← hB]; exact hnoB⟩
        rw [hW6] at hcell hownl hgw hap C6
        have hbw7 : Below W6.heap.size W6 (W6.drew.alloc (.cells #[.int .u16 x, .int .u32 y] 26)) := (Below.refl _ _).drew.alloc (by simp) _
        have hcell7 : (W6.drew.alloc (.cells #[.int .u16 x, .int .u32 y] 26)).cell? ⟨g, j, none⟩ = some (.slice a2 m2 c2) := (hbw7.cell (by exact hgw)).trans hcell
        have hcella : (W6.alloc (.cells #[.int .u16 x, .int .u32 y] 26)).cell? ⟨g, j, none⟩ = some (.slice a2 m2 c2) := (((Below.refl _ _).alloc (Nat.le_refl _) _ : Below W6.heap.size W6 _).cell (by exact hgw)).trans hcell
        have hcelld : W6.drew.cell? ⟨g, j, none⟩ = some (.slice a2 m2 c2) := hcell
        have HO7 := hid (hownl.ext hbw7)
        have HR7 : Hid (PidRow (W6.drew.alloc (.cells #[.int .u16 x, .int .u32 y] 26)) (some ⟨W6.heap.size, 0, none⟩) [(x, y)]) := hid (PidRow.one W6.drew x y)
        have HLEN : Hid (yl.length + [(x, y)].length ≤ 1099511627776) := hid (by
          have h1 := lens_total L yl (List.mem_of_getElem? hy)
          have h3 := (addAll_ok (come.take k) (ls := ls) HFULL.out).2.length_eq
          rw [hL, total_flat, List.length_append, total_flat, List.length_take] at h3
          have := HTOTS.out
          simp
          omega)
        have hs5 := hkp.mt.size
        have hbs5 := HS5.out
        have HB7 : Hid (base ≤ (W6.drew.alloc (.cells #[.int .u16 x, .int .u32 y] 26)).heap.size) := hid (by have := hbw7.size; rw [← hW6] at this ⊢; simp at this ⊢; omega)
        have HAP := hid hap
        have HBW7 := hid hbw7
        have HBQ := hid hbq
        have HX0 : Hid (W6.drew.cell? ⟨B, 0, none⟩ = some (.int .u16 x)) := hid x0
        have HX1 : Hid (W6.drew.cell? ⟨B, 1, none⟩ = some (.int .u32 y)) := hid x1'
        have HS7 : Hid ((W6.drew.alloc (.cells #[.int .u16 x, .int .u32 y] 26)).cell? ⟨B, 0, none⟩ = some (.int .u16 x) ∧ (W6.drew.alloc (.cells #[.int .u16 x, .int .u32 y] 26)).cell? ⟨B, 1, none⟩ = some (.int .u32 y)) := hid ⟨(hbw7.cell (by exact hbq.1)).trans x0, (hbw7.cell (by exact hbq.1)).trans x1'⟩
        have HSUCC := hid (hsucc.trans (addL_some hf hy))
        have HHK := hid hk
        clear hown hkp hrow hL hrc hx hsucc hL24 hB6 hown6 hkp6 hnoB hf hy hyl hcell hownl hgw hap hbw7 hbq hs5 hbs5 hkl hk hj hcap x0 x1'
        go_wp2_with fail
        (with_reducible refine C6.out.mono ?_)
        rintro e w7 ⟨rfl, rfl⟩
        clear C6
        go_wp2_with fail
        refine wp_region_held_drew (S := fun W => W.cell? ⟨B, 0, none⟩ = some (.int .u16 x) ∧ W.cell? ⟨B, 1, none⟩ = some (.int .u32 y)) (by kernel_rfl) (by exact ⟨HX0.out, HX1.out⟩) (fun hHeld => ?_)
        refine wpAnyH_take (i := 0) (oi := _) (v := .slice (some ⟨g, 0, none⟩) n1 cap) rfl (by kernel_rfl) (by kernel_rfl) (by kernel_rfl) (fun _ _ _ h => h) (Or.inl ⟨by rfl, ?_⟩) (by assumption) ?_
        · intro W hSw
          try dsimp only at hSw
          go_simp
        try simp only [Act.put, List.getElem_toArray, List.getElem_cons_succ, List.getElem_cons_zero, List.setIfInBounds_toArray, List.set_cons_zero, List.set_cons_succ]
        refine wpAnyH_take (i := 1) (oi := _) (v := .int .i64 (j : Int)) rfl (by kernel_rfl) (by kernel_rfl) (by kernel_rfl) (fun _ _ _ h => h) (Or.inl ⟨by rfl, ?_⟩) (by assumption) ?_
        · intro W hSw
          try dsimp only at hSw
          go_simp
        try simp only [Act.put, List.getElem_toArray, List.getElem_cons_succ, List.getElem_cons_zero, List.setIfInBounds_toArray, List.set_cons_zero, List.set_cons_succ]
        refine wpAnyH_take (i := 2) (oi := _) (v := .slice (some ⟨g, 0, none⟩) n1 cap) rfl (by kernel_rfl) (by kernel_rfl) (by kernel_rfl) (fun _ _ _ h => h) (Or.inl ⟨by rfl, ?_⟩) (by assumption) ?_
        · intro W hSw
          try dsimp only at hSw
          go_simp
        try simp only [Act.put, List.getElem_toArray, List.getElem_cons_succ, List.getElem_cons_zero, List.setIfInBounds_toArray, List.set_cons_zero, List.set_cons_succ]
        refine wpAnyH_take (i := 3) (oi := _) (v := .int .i64 (j : Int)) rfl (by kernel_rfl) (by kernel_rfl) (by kernel_rfl) (fun _ _ _ h => h) (Or.inl ⟨by rfl, ?_⟩) (by assumption) ?_
        · intro W hSw
          try dsimp only at hSw
          go_simp
        try simp only [Act.put, List.getElem_toArray, List.getElem_cons_succ, List.getElem_cons_zero, List.setIfInBounds_toArray, List.set_cons_zero, List.set_cons_succ]
        refine wpAnyH_take (i := 4) (oi := _) (v := .pointer (some ⟨g, j, none⟩)) rfl (by kernel_rfl) (by kernel_rfl) (by kernel_rfl) (fun _ _ _ h => h) (Or.inl ⟨by rfl, ?_⟩) (by assumption) ?_
        · intro W hSw
          try dsimp only at hSw
          go_simp
        try simp only [Act.put, List.getElem_toArray, List.getElem_cons_succ, List.getElem_cons_zero, List.setIfInBounds_toArray, List.set_cons_zero, List.set_cons_succ]
        refine wpAnyH_take (i := 6) (oi := _) (v := .agg #[.int .u16 x, .int .u32 y]) rfl (by kernel_rfl) (by kernel_rfl) (by kernel_rfl) (fun _ _ _ h => h) (Or.inl ⟨by rfl, ?_⟩) (by assumption) ?_
        · intro W hSw
          try dsimp only at hSw
          obtain ⟨hSw1, hSw2⟩ := hSw
          go_simp
        try simp only [Act.put, List.getElem_toArray, List.getElem_cons_succ, List.getElem_cons_zero, List.setIfInBounds_toArray, List.set_cons_zero, List.set_cons_succ]
        refine wpAnyH_ready (rs := [5, 7]) (by kernel_rfl) (by simp) ?_
        refine AllReadyH.cons (o := _) rfl (fun K hK => ?_) (AllReadyH.cons (o := _) rfl (fun K hK => ?_) AllReadyH.nil)
        · go_simp
          refine hK.out _ _ (⟨HX0.out, HX1.out⟩) (fun hHeld => ?_)
          clear hK K
          try simp only [Act.put, List.getElem_toArray, List.getElem_cons_succ, List.getElem_cons_zero, List.setIfInBounds_toArray, List.set_cons_zero, List.set_cons_succ]
          refine wpAnyH_ready (rs := [7]) (by kernel_rfl) (by simp) ?_
          refine AllReadyH.cons (o := _) rfl (fun K hK => ?_) AllReadyH.nil
          go_simp
          refine hK.out _ _ (HS7.out) (fun hHeld => ?_)
          clear hK K
          try simp only [Act.put, List.getElem_toArray, List.getElem_cons_succ, List.getElem_cons_zero, List.setIfInBounds_toArray, List.set_cons_zero, List.set_cons_succ]
          refine wpAnyH_ready (rs := [8]) (by kernel_rfl) (by simp) ?_
          refine AllReadyH.cons (o := _) rfl (fun K hK => ?_) AllReadyH.nil
          refine step_appendPat (by rfl) HO7.out HR7.out (hid rfl) HLEN.out HB7.out rfl rfl rfl ?_
          intro v8 w8 hown8 hg8 hat8
          obtain ⟨a8, n8, c8, cs8, e8, k8, f8, hL8, hK8, hq8⟩ := HAP.out _ HBW7.out v8 w8 hown8 hg8 hat8
          subst e8
          have HS8 : Hid (w8.cell? ⟨B, 0, none⟩ = some (.int .u16 x) ∧ w8.cell? ⟨B, 1, none⟩ = some (.int .u32 y)) := hid ⟨((hq8 ⟨B, 0, none⟩ HBQ.out.1 HBQ.out.2).1).trans HX0.out, ((hq8 ⟨B, 1, none⟩ HBQ.out.1 HBQ.out.2).1).trans HX1.out⟩
          have HS9 : Hid ((w8.setCell ⟨g, j, none⟩ (.slice a8 n8 c8)).cell? ⟨B, 0, none⟩ = some (.int .u16 x) ∧ (w8.setCell ⟨g, j, none⟩ (.slice a8 n8 c8)).cell? ⟨B, 1, none⟩ = some (.int .u32 y)) := hid ⟨((hq8 ⟨B, 0, none⟩ HBQ.out.1 HBQ.out.2).2).trans HX0.out, ((hq8 ⟨B, 1, none⟩ HBQ.out.1 HBQ.out.2).2).trans HX1.out⟩
          have HL8 := hid hL8
          have HK8 := hid hK8
          clear hown8 hg8 hat8 hL8 hK8 hq8
          refine hK.out _ _ (HS8.out) (fun hHeld => ?_)
          clear hK K
          try simp only [Act.put, List.getElem_toArray, List.getElem_cons_succ, List.getElem_cons_zero, List.setIfInBounds_toArray, List.set_cons_zero, List.set_cons_succ]
          refine wpAnyH_ready (rs := [9]) (by kernel_rfl) (by simp) ?_
          refine AllReadyH.cons (o := _) rfl (fun K hK => ?_) AllReadyH.nil
          go_simp
          refine hK.out _ _ (HS8.out) (fun hHeld => ?_)
          clear hK K
          try simp only [Act.put, List.getElem_toArray, List.getElem_cons_succ, List.getElem_cons_zero, List.setIfInBounds_toArray, List.set_cons_zero, List.set_cons_succ]
          refine wpAnyH_ready (rs := [10]) (by kernel_rfl) (by simp) ?_
          refine AllReadyH.cons (o := _) rfl (fun K hK => ?_) AllReadyH.nil
          go_simp
          refine hK.out _ _ (HS9.out) (fun hHeld => ?_)
          clear hK K
          try simp only [Act.put, List.getElem_toArray, List.getElem_cons_succ, List.getElem_cons_zero, List.setIfInBounds_toArray, List.set_cons_zero, List.set_cons_succ]
          refine wpAnyH_done (by kernel_rfl) ?_ _
          go_wp2
          go_roundw
          case rel => exact ⟨k + 1, cs8, by go_num, by omega, by rw [HSUCC.out]; exact HL8.out, HK8.out⟩
          case measure => simp [intOf]; omega
        · go_simp
          refine hK.out _ _ (HS7.out) (fun hHeld => ?_)
          clear hK K
          try simp only [Act.put, List.getElem_toArray, List.getElem_cons_succ, List.getElem_cons_zero, List.setIfInBounds_toArray, List.set_cons_zero, List.set_cons_succ]
          refine wpAnyH_ready (rs := [5]) (by kernel_rfl) (by simp) ?_
          refine AllReadyH.cons (o := _) rfl (fun K hK => ?_) AllReadyH.nil
          go_simp
          refine hK.out _ _ (HS7.out) (fun hHeld => ?_)
          clear hK K
          try simp only [Act.put, List.getElem_toArray, List.getElem_cons_succ, List.getElem_cons_zero, List.setIfInBounds_toArray, List.set_cons_zero, List.set_cons_succ]
          refine wpAnyH_ready (rs := [8]) (by kernel_rfl) (by simp) ?_
          refine AllReadyH.cons (o := _) rfl (fun K hK => ?_) AllReadyH.nil
          refine step_appendPat (by rfl) HO7.out HR7.out (hid rfl) HLEN.out HB7.out rfl rfl rfl ?_
          intro v8 w8 hown8 hg8 hat8
          obtain ⟨a8, n8, c8, cs8, e8, k8, f8, hL8, hK8, hq8⟩ := HAP.out _ HBW7.out v8 w8 hown8 hg8 hat8
          subst e8
          have HS8 : Hid (w8.cell? ⟨B, 0, none⟩ = some (.int .u16 x) ∧ w8.cell? ⟨B, 1, none⟩ = some (.int .u32 y)) := hid ⟨((hq8 ⟨B, 0, none⟩ HBQ.out.1 HBQ.out.2).1).trans HX0.out, ((hq8 ⟨B, 1, none⟩ HBQ.out.1 HBQ.out.2).1).trans HX1.out⟩
          have HS9 : Hid ((w8.setCell ⟨g, j, none⟩ (.slice a8 n8 c8)).cell? ⟨B, 0, none⟩ = some (.int .u16 x) ∧ (w8.setCell ⟨g, j, none⟩ (.slice a8 n8 c8)).cell? ⟨B, 1, none⟩ = some (.int .u32 y)) := hid ⟨((hq8 ⟨B, 0, none⟩ HBQ.out.1 HBQ.out.2).2).trans HX0.out, ((hq8 ⟨B, 1, none⟩ HBQ.out.1 HBQ.out.2).2).trans HX1.out⟩
          have HL8 := hid hL8
          have HK8 := hid hK8
          clear hown8 hg8 hat8 hL8 hK8 hq8
          refine hK.out _ _ (HS8.out) (fun hHeld => ?_)
          clear hK K
          try simp only [Act.put, List.getElem_toArray, List.getElem_cons_succ, List.getElem_cons_zero, List.setIfInBounds_toArray, List.set_cons_zero, List.set_cons_succ]
          refine wpAnyH_ready (rs := [9]) (by kernel_rfl) (by simp) ?_
          refine AllReadyH.cons (o := _) rfl (fun K hK => ?_) AllReadyH.nil
          go_simp
          refine hK.out _ _ (HS8.out) (fun hHeld => ?_)
          clear hK K
          try simp only [Act.put, List.getElem_toArray, List.getElem_cons_succ, List.getElem_cons_zero, List.setIfInBounds_toArray, List.set_cons_zero, List.set_cons_succ]
          refine wpAnyH_ready (rs := [10]) (by kernel_rfl) (by simp) ?_
          refine AllReadyH.cons (o := _) rfl (fun K hK => ?_) AllReadyH.nil
          go_simp
          refine hK.out _ _ (HS9.out) (fun hHeld => ?_)
          clear hK K
          try simp only [Act.put, List.getElem_toArray, List.getElem_cons_succ, List.getElem_cons_zero, List.setIfInBounds_toArray, List.set_cons_zero, List.set_cons_succ]
          refine wpAnyH_done (by kernel_rfl) ?_ _
          go_wp2
          go_roundw
          case rel => exact ⟨k + 1, cs8, by go_num, by omega, by rw [HSUCC.out]; exact HL8.out, HK8.out⟩
          case measure => simp [intOf]; omega
    · have htake : come.take k = come := List.take_of_length_le (by rw [hCn.out]; omega)
      rw [htake] at hL
      have hFa : fitV b L = F := by rw [← hL]; exact HF.out
      have hfullL : Full L := by rw [← hL]; exact HPAR.out.full
      have htotL : total L ≤ 60 := by rw [← hL]; have := HTOT.out; have := H24.out; omega
      have hw5s : w.heap.size < w5.heap.size ∧ w.heap.size + 1 < w5.heap.size := by have := HZ3.out; have := HZ5.out; omega
      have z0 : wr.cell? ⟨w.heap.size, 0, none⟩ = some (.int .i64 b.least) := (hkp.cell (p := ⟨w.heap.size, 0, none⟩) hw5s.1 HNS0.out.1).trans HBX5.out.c0
      have z1 : wr.cell? ⟨w.heap.size, 1, none⟩ = some (.int .i64 b.most) := (hkp.cell (p := ⟨w.heap.size, 1, none⟩) hw5s.1 HNS0.out.1).trans HBX5.out.c1
      have z2 : wr.cell? ⟨w.heap.size, 2, none⟩ = some (.int .i64 b.tmo) := (hkp.cell (p := ⟨w.heap.size, 2, none⟩) hw5s.1 HNS0.out.1).trans HBX5.out.c2
      have hs5 := hkp.mt.size
      have hbs5 := HS5.out
      have C6 := fit_any (b := b) (hid hn1) HBC.out hown hfullL htotL (by omega)
      rw [hFa] at C6
      have C6 := hid C6
      have HKP := hid hkp
      have HW5 := hid hw5s
      have HSR : Hid (base ≤ wr.heap.size) := hid (by omega)
      clear hown hkp hrow hL htake hFa hfullL htotL hw5s hs5 hbs5
      go_wp2_with fail
      (with_reducible refine C6.out.mono ?_)
      rintro e w6 ⟨v6, cs6, rfl, hs6, hk6⟩
      obtain ⟨g6, cap6, e6, hcap6⟩ := hs6.lit HF0.out
      obtain ⟨NF, hNF⟩ : ∃ NF, F.length = NF := ⟨_, rfl⟩
      rw [hNF] at e6
      subst e6
      have hkp6 := HKP.out.trans hk6
      have hrm6 : PidRow w6 am ms := HRM.out.mutN hkp6.mt (fun g off e => HPM.out g off e)
      have hsz6 := hk6.mt.size
      have hsr := HSR.out
      have hsz5 := HKP.out.mt.size
      have hf0 := HF0.out
      have hm24 := H24.out
      have hfl := HFL.out
      have C7 := ordered_any (cm := km) HPF.out (hid hNF) hs6 (by omega) (by omega) HM (by omega) hrm6 (fun g off e => ⟨hkp6.safe (HBM.out g off e).2.1 (HPM.out g off e), by have := (HBM.out g off e).2.1; omega⟩)
      rw [HOR.out] at C7
      have C7 := hid C7
      have HKP6 := hid hkp6
      have HRM6 := hid hrm6
      have HNF := hid hNF
      have HB6 : Hid (base ≤ w6.heap.size ∧ w5.heap.size ≤ w6.heap.size ∧ NF ≤ 24) := hid (by omega)
      clear hs6 hk6 hkp6 hrm6 hNF hcap6 hsz6 hsr hsz5 hf0 hm24 hfl C6 z0 z1 z2
      go_wp2_with fail
      (with_reducible refine C7.out.mono ?_)
      rintro e w7 ⟨cs7, rfl, hs7, hk7⟩
      have hkp7 := HKP6.out.trans hk7
      have hrm7 : PidRow w7 am ms := HRM.out.mutN hkp7.mt (fun g off e => HPM.out g off e)
      have hro7 : LeafRow w7 (some ⟨g6, 0, none⟩) OR := by
        obtain ⟨x, y, e, hr⟩ := hs7.row
        injection e with e1 e2 e3
        rw [e1]; exact hr
      have horn : OR.length = NF := HORL.out.trans HNF.out
      have C8 := leaders_any (cm := km) (cl := cap6) HM (by have := H24.out; omega) (hid horn) (by have := HB6.out; omega) hrm7 hro7 HFO.out HHD.out HHS.out HPF.out.nd HOKM.out
      rw [HDS.out] at C8
      have C8 := hid C8
      have HKP7 := hid hkp7
      have HRM7 := hid hrm7
      have HS7 := hid hs7
      have HORN := hid horn
      have HSZ7 : Hid (w5.heap.size ≤ w7.heap.size) := hid (by have := hkp7.mt.size; omega)
      clear hs7 hk7 hkp7 hrm7 hro7 horn C7
      go_wp2_with fail
      (with_reducible refine C8.out.mono ?_)
      rintro e w8 ⟨v8, rfl, hown8, hb8⟩
      obtain ⟨a8, c8, e8, -, hr8, -, hblk8⟩ := hown8.sl
      obtain ⟨n8, hn8⟩ : ∃ n8, DS.length = n8 := ⟨_, rfl⟩
      rw [hn8] at e8 hblk8
      subst e8
      have hvx8 := (HVX5.out.mutT HKP7.out.mt HNS0.out.2).ext hb8
      obtain ⟨d0, d1, d2, d3, g0, g1, g2, g3⟩ := _root_.id hvx8
      have DD := hid (hvx8.put (.int .u64 id) (.slice am M km) (.slice (some ⟨g6, 0, none⟩) NF cap6) (.slice a8 n8 c8))
      have HN8 := hid hn8
      have HR8 := hid hr8
      have HBLK8 := hid hblk8
      have HB8 := hid hb8
      clear hvx8 hn8 hr8 hblk8 hb8 hown8 C8
      go_wp2_with fail
      obtain ⟨q0, q1, q2, q3, -, -, -, -⟩ := DD.out
      have hmt9 : Mut (fun k => k = w.heap.size + 1) w8 ((((w8.setCell ⟨w.heap.size + 1, 0, none⟩ (.int .u64 id)).setCell ⟨w.heap.size + 1, 1, none⟩ (.slice am M km)).setCell ⟨w.heap.size + 1, 2, none⟩ (.slice (some ⟨g6, 0, none⟩) NF cap6)).setCell ⟨w.heap.size + 1, 3, none⟩ (.slice a8 n8 c8)) := ((mut1.trans mut1).trans mut1).trans mut1
      have hno9 : ¬ inLL (.slice (some ⟨g6, 0, none⟩) NF cap6) cs7 (w.heap.size + 1) := HKP7.out.safe HW5.out.2 HNS0.out.2
      refine bodyPost_ret (v := .tuple #[.agg #[.int .u64 id, .slice am M km, .slice (some ⟨g6, 0, none⟩) NF cap6, .slice a8 n8 c8], .int .i64 0]) (by simp [results, Try.results165, go_sem, q0, q1, q2, q3]) rfl ?_
      unfold BuildRes
      have hm9 := (HRM7.out.ext HB8.out).mutN hmt9 (fun g off e => (HBM.out g off e).2.2)
      have hl9 := (HS7.out.ext HB8.out).mutN hmt9 (fun g hg e => hno9 (.inl (by have e : g = w.heap.size + 1 := e; rw [← e]; exact hg))) (fun s hs g hg e => hno9 (.inr ⟨s, hs, by have e : g = w.heap.size + 1 := e; rw [← e]; exact hg⟩))
      have hblk8 : ∀ g off, a8 = some ⟨g, off, none⟩ → w.heap.size + 1 < g := fun g off e => by
        have := (HBLK8.out g (by rw [e]; rfl)).1
        have := HSZ7.out
        have := HW5.out
        omega
      have hd9 := HR8.out.mutN hmt9 (fun g off e eq => by
        have := hblk8 g off e
        have eq : g = w.heap.size + 1 := eq
        omega)
      refine ⟨am, some ⟨g6, 0, none⟩, a8, km, cap6, c8, ?_, fun G hG W' hmG => ⟨?_, ?_, ?_, ?_, ?_, ?_, ?_⟩, ?_⟩
      · show _ = Ending.returned (.tuple #[.agg #[.int .u64 id, .slice am ms.length km, .slice (some ⟨g6, 0, none⟩) OR.length cap6, .slice a8 DS.length c8], .int .i64 0])
        rw [HM.out, HORN.out, HN8.out]
      · exact hm9.mutN hmG (fun g off e hg => by have := (HBM.out g off e).1; have := hG g hg; have := HBASE.out; omega)
      · obtain ⟨x, y, e, hr⟩ := (hl9.mutT hmG hG).row
        injection e with e1 e2 e3
        show LeafRow _ (some ⟨g6, 0, none⟩) OR
        subst e1
        exact hr
      · exact hd9.mutN hmG (fun g off e hg => by have := hblk8 g off e; have := hG g hg; have := HBASE.out; omega)
      · show ms.length ≤ 70368744177664
        have := HM.out; have := H24.out; omega
      · show OR.length ≤ 70368744177664
        have := HORN.out; have := HB6.out; omega
      · show DS.length ≤ 70368744177664
        have := HDL.out; omega
      · intro l hl
        have := HORM.out l hl; omega
      · exact Mut.far ((Mut.of_below HB5.out).trans (HKP7.out.ext HB8.out).mt) hmt9 (fun k hk e => by have e : k = w.heap.size + 1 := e; omega)
end Go.Proofs.Ytbpfhclcjedkcaa

namespace Go.Proofs.Ytbpfhclcjedkcaa
open Go.RowKit
/-! ### layout: First -/
theorem inLL_nil {b : Nat} : ¬ inLL (.slice none 0 0) [] b := by
  rintro (h | ⟨s, hs, -⟩)
  · cases h
  · cases hs
theorem Parts.none : Parts [] [] := ⟨List.Pairwise.nil, fun _ hl => (by cases hl), List.Perm.refl _⟩
theorem Stab.mono {base b' : Nat} {w : World} {am al ad : Option Addr} {V : View} (h : Stab base w am al ad V) (hb : b' ≤ base) : Stab b' w am al ad V :=
  fun G hG W' hm => h G (fun k hk => by have := hG k hk; omega) W' hm
theorem Stab.mut {base : Nat} {G : Nat → Prop} {w w' : World} {am al ad : Option Addr} {V : View} (h : Stab base w am al ad V) (hm : Mut G w w') (hG : ∀ k, G k → k < base) : Stab base w' am al ad V :=
  fun G2 hG2 W' hm2 => h (fun k => G k ∨ G2 k) (fun k hk => hk.elim (hG k) (hG2 k)) W' ((hm.mono fun _ _ e => .inl e).trans (hm2.mono fun _ _ e => .inr e))
theorem lcheck_is {b : Bnd} {w : World} {r : Bool} {k : Int} (hr : Hid (bchk b = r)) (hk : chkL r = k) (hb : BndOk b) :
    Calls Try.prog 163 #[.agg #[.int .i64 b.least, .int .i64 b.most, .int .i64 b.tmo]] w fun e w' => e = .returned (.int .i64 k) ∧ Below w.heap.size w w' := by
  have := lcheck_any (w := w) hb
  rw [hr.out, hk] at this
  exact this
structure TwoBox (W2 w : World) (b : Bnd) : Prop where
  bl : Below w.heap.size w W2
  sz : W2.heap.size = w.heap.size + 1 + 1
  bx : BndBox W2 w.heap.size b
  vx : BoxV W2 (w.heap.size + 1) (.int .u64 0) (.slice none 0 0) (.slice none 0 0) (.slice none 0 0)
theorem TwoBox.made (w : World) (b : Bnd) : TwoBox ((w.alloc (.cells #[.int .i64 b.least, .int .i64 b.most, .int .i64 b.tmo] 117)).alloc (.cells #[.int .u64 0, .slice none 0 0, .slice none 0 0, .slice none 0 0] 33)) w b := by
  refine ⟨((Below.refl _ _).alloc (Nat.le_refl _) _).alloc (by simp) _, by simp, (BndBox.made w).ext ((Below.refl _ _).alloc (Nat.le_refl _) _) (by simp), ?_⟩
  have := BoxV.made (w.alloc (.cells #[.int .i64 b.least, .int .i64 b.most, .int .i64 b.tmo] 117)) 33 (.int .u64 0) (.slice none 0 0) (.slice none 0 0) (.slice none 0 0)
  simpa using this
theorem mut4 {w : World} {b : Nat} {v0 v1 v2 v3 : Value} : Mut (fun k => k = b) w ((((w.setCell ⟨b, 0, none⟩ v0).setCell ⟨b, 1, none⟩ v1).setCell ⟨b, 2, none⟩ v2).setCell ⟨b, 3, none⟩ v3) := ((mut1.trans mut1).trans mut1).trans mut1
set_option maxRecDepth 100000 in
set_option maxHeartbeats 3200000 in
theorem first_any {w : World} {l : List Pid} {b : Bnd} {a : Option Addr} {c n : Nat} {V : View} {er : Int} (hV : Hid (firstV l b = (V, er))) (hn : Hid (l.length = n)) (hnl : n ≤ 1000) (hrow : PidRow w a l) (hok : ∀ p ∈ l, ok p) (hbo : BndOk b) :
    Calls Try.prog 69 #[.slice a n c, .agg #[.int .i64 b.least, .int .i64 b.most, .int .i64 b.tmo]] w fun e w' => BuildRes V er w.heap.size (fun _ => False) w e w' := by
  obtain ⟨W2, hW2⟩ : ∃ W2, ((w.alloc (.cells #[.int .i64 b.least, .int .i64 b.most, .int .i64 b.tmo] 117)).alloc (.cells #[.int .u64 0, .slice none 0 0, .slice none 0 0, .slice none 0 0] 33)) = W2 := ⟨_, rfl⟩
  have hT : TwoBox W2 w b := by rw [← hW2]; exact TwoBox.made w b
  have HT := hid hT
  obtain ⟨rb, hrb⟩ : ∃ r, bchk b = r := ⟨_, rfl⟩
  obtain ⟨rm, hrm⟩ : ∃ r, mayAll l = r := ⟨_, rfl⟩
  obtain ⟨c0, c1, c2⟩ := id hT.bx
  have HOK := hid hok
  have HROW := hid hrow
  clear hT hok hrow
  cases rb
  case false =>
    have hv : (zeroV, (1 : Int)) = (V, er) := by rw [← hV.out]; unfold firstV; rw [if_pos (.inl hrb)]
    obtain ⟨rfl, rfl⟩ : zeroV = V ∧ 1 = er := by simpa using hv
    have C1 := hid (lcheck_is (w := W2) (k := 1) (hid hrb) rfl hbo)
    have t1 : ((1 : Int) != 0) = true := by decide
    clear hV hv hrb hrm
    go_enter Try.func69, Try.ntmps69
    go_wp2_with fail
    (with_reducible refine C1.out.mono ?_)
    rintro e w3 ⟨rfl, hb3⟩
    obtain ⟨d0, d1, d2, d3, g0, g1, g2, g3⟩ := HT.out.vx.ext hb3
    have DD := hid ((HT.out.vx.ext hb3).put (.int .u64 0) (.slice none 0 0) (.slice none 0 0) (.slice none 0 0))
    have HB3 := hid (HT.out.bl.trans (hb3.mono HT.out.bl.size))
    clear hb3 C1 c0 c1 c2 hW2
    go_wp2_with fail
    obtain ⟨q0, q1, q2, q3, -, -, -, -⟩ := DD.out
    exact bodyPost_ret (v := .tuple #[.agg #[.int .u64 0, .slice none 0 0, .slice none 0 0, .slice none 0 0], .int .i64 1]) (by simp [results, Try.results69, go_sem, q0, q1, q2, q3]) rfl
      (BuildRes.zero (Mut.of_below (below_put4 HB3.out (by omega))))
  case true =>
    have C1 := hid (lcheck_is (w := W2) (k := 0) (hid hrb) rfl hbo)
    have CM : Hid (∀ W, Below W2.heap.size W2 W → Calls Try.prog 164 #[.slice a n c] W fun e w' => e = .returned (.bool rm) ∧ Below W.heap.size W w') := hid fun W h => lmay_any (hid hrm) hn (by omega) ((HROW.out.ext HT.out.bl).ext h)
    have t1 : ((0 : Int) != 0) = false := by decide
    cases rm
    case false =>
      have hv : (zeroV, (1 : Int)) = (V, er) := by rw [← hV.out]; unfold firstV; rw [if_pos (.inr hrm)]
      obtain ⟨rfl, rfl⟩ : zeroV = V ∧ 1 = er := by simpa using hv
      clear hV hv hrb hrm
      go_enter Try.func69, Try.ntmps69
      go_wp2_with fail
      (with_reducible refine C1.out.mono ?_)
      rintro e w3 ⟨rfl, hb3⟩
      have CMw := CM.out _ hb3
      clear c0 c1 c2 C1 CM
      go_wp2_with fail
      (with_reducible refine CMw.mono ?_)
      rintro e w4 ⟨rfl, hb4⟩
      have hb24 := hb3.trans (hb4.mono hb3.size)
      obtain ⟨d0, d1, d2, d3, g0, g1, g2, g3⟩ := HT.out.vx.ext hb24
      have DD := hid ((HT.out.vx.ext hb24).put (.int .u64 0) (.slice none 0 0) (.slice none 0 0) (.slice none 0 0))
      have HB3 := hid (HT.out.bl.trans (hb24.mono HT.out.bl.size))
      clear hb3 hb4 hb24 CMw hW2
      go_wp2_with fail
      obtain ⟨q0, q1, q2, q3, -, -, -, -⟩ := DD.out
      exact bodyPost_ret (v := .tuple #[.agg #[.int .u64 0, .slice none 0 0, .slice none 0 0, .slice none 0 0], .int .i64 1]) (by simp [results, Try.results69, go_sem, q0, q1, q2, q3]) rfl
        (BuildRes.zero (Mut.of_below (below_put4 HB3.out (by omega))))
    case true =>
      have hv : buildV 1 [] [] l b = (V, er) := by rw [← hV.out]; unfold firstV; rw [if_neg (by rw [hrb, hrm]; simp)]
      have HV := hid hv
      have HRB := hid hrb
      clear hV hv hrb hrm
      go_enter Try.func69, Try.ntmps69
      go_wp2_with fail
      (with_reducible refine C1.out.mono ?_)
      rintro e w3 ⟨rfl, hb3⟩
      have CMw := CM.out _ hb3
      clear c0 c1 c2 C1 CM
      go_wp2_with fail
      (with_reducible refine CMw.mono ?_)
      rintro e w4 ⟨rfl, hb4⟩
      have hb24 := hb3.trans (hb4.mono hb3.size)
      obtain ⟨c0, c1, c2⟩ := HT.out.bx.ext hb24 HT.out.bx.lt
      have HVX4 := hid (HT.out.vx.ext hb24)
      have HB3 := hid (HT.out.bl.trans (hb24.mono HT.out.bl.size))
      have HSZ4 : Hid (w.heap.size + 1 < w4.heap.size) := hid (by have := hb24.size; have := HT.out.sz; omega)
      have C3 := hid (build_any (w := w4) (base := w4.heap.size) (SN := 0) (N := 0) (ks := 0) (kc := c) (ay := none) (ac := a) HV rfl hn rfl (by omega) hnl (.inl rfl) (HROW.out.ext HB3.out) (LLs.nil _ _) (Nat.le_refl _) Parts.none List.Pairwise.nil (by simpa using HOK.out) HRB.out (fun _ _ _ _ => inLL_nil))
      clear hb3 hb4 hb24 CMw hW2
      go_wp2_with fail
      (with_reducible refine C3.out.mono ?_)
      rintro e w5 hres
      unfold BuildRes at hres
      obtain ⟨qm, ql, qd, km, kl, kd, rfl, hst, hm⟩ := hres
      have hb5 : Below w4.heap.size w4 w5 := hm.below (Nat.le_refl _) (fun k e => absurd e inLL_nil)
      have hvx5 := HVX4.out.ext hb5
      obtain ⟨d0, d1, d2, d3, g0, g1, g2, g3⟩ := id hvx5
      have DD := hid (hvx5.put (.int .u64 V.id) (.slice qm V.ms.length km) (.slice ql V.ls.length kl) (.slice qd V.ds.length kd))
      have HB5 := hid (HB3.out.trans (hb5.mono HB3.out.size))
      have HST := hid hst
      clear hvx5 hb5 hm hst C3 c0 c1 c2
      go_wp2_with fail
      obtain ⟨q0, q1, q2, q3, -, -, -, -⟩ := DD.out
      refine bodyPost_ret (v := .tuple #[.agg #[.int .u64 V.id, .slice qm V.ms.length km, .slice ql V.ls.length kl, .slice qd V.ds.length kd], .int .i64 er]) (by simp [results, Try.results69, go_sem, q0, q1, q2, q3]) rfl ?_
      unfold BuildRes
      exact ⟨qm, ql, qd, km, kl, kd, rfl, (HST.out.mut mut4 (fun k e => by have := HSZ4.out; omega)).mono (by have := HSZ4.out; omega), Mut.of_below (below_put4 HB5.out (by omega))⟩
end Go.Proofs.Ytbpfhclcjedkcaa

namespace Go.Proofs.Ytbpfhclcjedkcaa
open Go.RowKit
/-! ### layer 17: the document's example -/
def l3 : List Pid := [(1, 1), (2, 1), (3, 1)]
def v3 : View := ⟨1, l3, [[(1, 1), (2, 1)], [(3, 1)]], l3⟩
theorem first3 : firstV l3 ⟨1, 2, 0⟩ = (v3, 0) := by kernel_rfl
structure Box3 (W : World) (s : Nat) : Prop where
  a0 : W.cell? ⟨s, 0, none⟩ = some (.int .u16 1)
  a1 : W.cell? ⟨s, 1, none⟩ = some (.int .u32 1)
  b0 : W.cell? ⟨s + 1, 0, none⟩ = some (.int .u16 2)
  b1 : W.cell? ⟨s + 1, 1, none⟩ = some (.int .u32 1)
  c0 : W.cell? ⟨s + 1 + 1, 0, none⟩ = some (.int .u16 3)
  c1 : W.cell? ⟨s + 1 + 1, 1, none⟩ = some (.int .u32 1)
theorem Box3.ext {W W' : World} {s : Nat} (h : Box3 W s) (hb : Below W.heap.size W W') : Box3 W' s :=
  ⟨cell_to h.a0 hb, cell_to h.a1 hb, cell_to h.b0 hb, cell_to h.b1 hb, cell_to h.c0 hb, cell_to h.c1 hb⟩
theorem Box3.made (w : World) : Box3 (((w.alloc (.cells #[.int .u16 1, .int .u32 1] 26)).alloc (.cells #[.int .u16 2, .int .u32 1] 26)).alloc (.cells #[.int .u16 3, .int .u32 1] 26)) w.heap.size := by
  have h0 : ∀ o o' : Obj, Below (w.alloc o).heap.size (w.alloc o) ((w.alloc o).alloc o') := fun o o' => (Below.refl _ _).alloc (Nat.le_refl _) _
  have k0 : (w.alloc (.cells #[.int .u16 1, .int .u32 1] 26)).cell? ⟨w.heap.size, 0, none⟩ = some (.int .u16 1) := by simp
  have k1 : (w.alloc (.cells #[.int .u16 1, .int .u32 1] 26)).cell? ⟨w.heap.size, 1, none⟩ = some (.int .u32 1) := by simp
  have m0 : ((w.alloc (.cells #[.int .u16 1, .int .u32 1] 26)).alloc (.cells #[.int .u16 2, .int .u32 1] 26)).cell? ⟨w.heap.size + 1, 0, none⟩ = some (.int .u16 2) := by simp
  have m1 : ((w.alloc (.cells #[.int .u16 1, .int .u32 1] 26)).alloc (.cells #[.int .u16 2, .int .u32 1] 26)).cell? ⟨w.heap.size + 1, 1, none⟩ = some (.int .u32 1) := by simp
  have z : ((w.alloc (.cells #[.int .u16 1, .int .u32 1] 26)).alloc (.cells #[.int .u16 2, .int .u32 1] 26)).heap.size = w.heap.size + 1 + 1 := by simp
  have c : ∀ W : World, (W.alloc (.cells #[.int .u16 3, .int .u32 1] 26)).cell? ⟨W.heap.size, 0, none⟩ = some (.int .u16 3) ∧ (W.alloc (.cells #[.int .u16 3, .int .u32 1] 26)).cell? ⟨W.heap.size, 1, none⟩ = some (.int .u32 1) := fun W => ⟨by simp, by simp⟩
  have cc := c ((w.alloc (.cells #[.int .u16 1, .int .u32 1] 26)).alloc (.cells #[.int .u16 2, .int .u32 1] 26))
  rw [z] at cc
  have e : ∀ W : World, ∀ o, Below W.heap.size W (W.alloc o) := fun W o => (Below.refl _ _).alloc (Nat.le_refl _) _
  exact ⟨cell_to (cell_to k0 (e _ _)) (e _ _), cell_to (cell_to k1 (e _ _)) (e _ _), cell_to m0 (e _ _), cell_to m1 (e _ _), cc.1, cc.2⟩
theorem row3 (W : World) : PidRow (W.alloc (.cells #[.int .u16 1, .int .u32 1, .int .u16 2, .int .u32 1, .int .u16 3, .int .u32 1] 26)) (some ⟨W.heap.size, 0, none⟩) l3 :=
  .inr ⟨_, 0, rfl, by simp, fun i hi => by
    have : i = 0 ∨ i = 1 ∨ i = 2 := by simp [l3] at hi; omega
    rcases this with rfl | rfl | rfl <;> exact ⟨by simp [l3], by simp [l3]⟩⟩
theorem row2 (W : World) : PidRow (W.alloc (.cells #[.int .u16 1, .int .u32 1, .int .u16 2, .int .u32 1] 26)) (some ⟨W.heap.size, 0, none⟩) [(1, 1), (2, 1)] :=
  .inr ⟨_, 0, rfl, by simp, fun i hi => by
    have : i = 0 ∨ i = 1 := by simp at hi; omega
    rcases this with rfl | rfl <;> exact ⟨by simp, by simp⟩⟩
set_option maxRecDepth 100000 in
set_option maxHeartbeats 3200000 in
theorem awakeL_any (w : World) : Calls Try.prog 45 #[] w fun e w' => e = .returned (.bool true) ∧ Below w.heap.size w w' := by
  have hal : ∀ (W : World) (o : Obj), Below W.heap.size W (W.alloc o) := fun W o => (Below.refl _ _).alloc (Nat.le_refl _) _
  obtain ⟨W3, hW3⟩ : ∃ W3, (((w.alloc (.cells #[.int .u16 1, .int .u32 1] 26)).alloc (.cells #[.int .u16 2, .int .u32 1] 26)).alloc (.cells #[.int .u16 3, .int .u32 1] 26)) = W3 := ⟨_, rfl⟩
  have hz3 : W3.heap.size = w.heap.size + 1 + 1 + 1 := by rw [← hW3]; simp
  have hb3 : Below w.heap.size w W3 := by rw [← hW3]; exact ((hal w _).trans ((hal _ _).mono (by simp))).trans ((hal _ _).mono (by simp; omega))
  have hx3 : Box3 W3 w.heap.size := by rw [← hW3]; exact Box3.made w
  have hr3 := row3 W3
  rw [hz3] at hr3
  have C1 := hid (first_any (c := 3) (n := 3) (hid first3) (hid rfl) (by omega) hr3 (by intro p hp; unfold ok; simp [l3] at hp; rcases hp with rfl | rfl | rfl <;> decide) ⟨by decide, by decide⟩)
  have HB4 := hid (hb3.trans ((hal W3 (.cells #[.int .u16 1, .int .u32 1, .int .u16 2, .int .u32 1, .int .u16 3, .int .u32 1] 26)).mono hb3.size))
  have HX4 := hid (hx3.ext (hal W3 (.cells #[.int .u16 1, .int .u32 1, .int .u16 2, .int .u32 1, .int .u16 3, .int .u32 1] 26)))
  obtain ⟨i0, i1, j0, j1, k0, k1⟩ := id hx3
  clear hr3 hx3 hb3
  go_enter Try.func45, Try.ntmps45
  go_wp2_with fail
  (with_reducible refine C1.out.mono ?_)
  rintro e w5 hres
  clear i0 i1 j0 j1 k0 k1 hz3 hW3
  unfold BuildRes at hres
  obtain ⟨qm, ql, qd, km, kl, kd, rfl, hst, hm⟩ := hres
  have hb5 : Below (W3.alloc (.cells #[.int .u16 1, .int .u32 1, .int .u16 2, .int .u32 1, .int .u16 3, .int .u32 1] 26)).heap.size (W3.alloc (.cells #[.int .u16 1, .int .u32 1, .int .u16 2, .int .u32 1, .int .u16 3, .int .u32 1] 26)) w5 := hm.below (Nat.le_refl _) (fun k e => e.elim)
  have hb05 := HB4.out.trans (hb5.mono HB4.out.size)
  have hx5 := HX4.out.ext hb5
  have hv5 := hst.r
  obtain ⟨X5, hX5⟩ : ∃ X5, w5.alloc (.cells #[.int .u64 v3.id, .slice qm v3.ms.length km, .slice ql v3.ls.length kl, .slice qd v3.ds.length kd] 33) = X5 := ⟨_, rfl⟩
  have e5 : Below w5.heap.size w5 X5 := by rw [← hX5]; exact hal _ _
  have s5 : X5.heap.size = w5.heap.size + 1 := by rw [← hX5]; simp
  have y5 : ViewBox X5 w5.heap.size v3 qm ql qd km kl kd := by rw [← hX5]; exact ViewBox.made w5
  have x5 := hx5.ext e5
  obtain ⟨X6, hX6⟩ : ∃ X6, X5.alloc (.cells #[.int .u16 1, .int .u32 1, .int .u16 2, .int .u32 1, .int .u16 3, .int .u32 1] 26) = X6 := ⟨_, rfl⟩
  have e6 : Below X5.heap.size X5 X6 := by rw [← hX6]; exact hal _ _
  have s6 : X6.heap.size = w5.heap.size + 1 + 1 := by rw [← hX6]; simp [s5]
  have x6 := x5.ext e6
  have r6 : PidRow X6 (some ⟨w5.heap.size + 1, 0, none⟩) l3 := by rw [← hX6, ← s5]; exact row3 X5
  obtain ⟨X7, hX7⟩ : ∃ X7, X6.alloc (.cells #[.int .u16 1, .int .u32 1, .int .u16 2, .int .u32 1] 26) = X7 := ⟨_, rfl⟩
  have e7 : Below X6.heap.size X6 X7 := by rw [← hX7]; exact hal _ _
  have s7 : X7.heap.size = w5.heap.size + 1 + 1 + 1 := by rw [← hX7]; simp [s6]
  have x7 := x6.ext e7
  have r7 : PidRow X7 (some ⟨w5.heap.size + 1 + 1, 0, none⟩) [(1, 1), (2, 1)] := by rw [← hX7, ← s6]; exact row2 X6
  obtain ⟨X8, hX8⟩ : ∃ X8, X7.alloc (.cells #[.int .u16 3, .int .u32 1] 26) = X8 := ⟨_, rfl⟩
  have e8 : Below X7.heap.size X7 X8 := by rw [← hX8]; exact hal _ _
  have s8 : X8.heap.size = w5.heap.size + 1 + 1 + 1 + 1 := by rw [← hX8]; simp [s7]
  have x8 := x7.ext e8
  have r8 : PidRow X8 (some ⟨w5.heap.size + 1 + 1 + 1, 0, none⟩) [(3, 1)] := by rw [← hX8, ← s7]; exact PidRow.one X7 3 1
  obtain ⟨X9, hX9⟩ : ∃ X9, X8.alloc (.cells #[.slice (some ⟨w5.heap.size + 1 + 1, 0, none⟩) 2 2, .slice (some ⟨w5.heap.size + 1 + 1 + 1, 0, none⟩) 1 1] 30) = X9 := ⟨_, rfl⟩
  have e9 : Below X8.heap.size X8 X9 := by rw [← hX9]; exact hal _ _
  have s9 : X9.heap.size = w5.heap.size + 1 + 1 + 1 + 1 + 1 := by rw [← hX9]; simp [s8]
  have x9 := x8.ext e9
  have n0 : X9.cell? ⟨w5.heap.size + 1 + 1 + 1 + 1, 0, none⟩ = some (.slice (some ⟨w5.heap.size + 1 + 1, 0, none⟩) 2 2) := by rw [← hX9, ← s8]; simp
  have n1 : X9.cell? ⟨w5.heap.size + 1 + 1 + 1 + 1, 1, none⟩ = some (.slice (some ⟨w5.heap.size + 1 + 1 + 1, 0, none⟩) 1 1) := by rw [← hX9, ← s8]; simp
  obtain ⟨X10, hX10⟩ : ∃ X10, X9.alloc (.cells #[.int .u16 1, .int .u32 1, .int .u16 2, .int .u32 1, .int .u16 3, .int .u32 1] 26) = X10 := ⟨_, rfl⟩
  have e10 : Below X9.heap.size X9 X10 := by rw [← hX10]; exact hal _ _
  have r10 : PidRow X10 (some ⟨w5.heap.size + 1 + 1 + 1 + 1 + 1, 0, none⟩) l3 := by rw [← hX10, ← s9]; exact row3 X9
  have p6 := (((r6.ext e7).ext e8).ext e9).ext e10
  have p7 := ((r7.ext e8).ext e9).ext e10
  have p8 := (r8.ext e9).ext e10
  have hvl : ViewR X10 (some ⟨w5.heap.size + 1, 0, none⟩) (some ⟨w5.heap.size + 1 + 1 + 1 + 1, 0, none⟩) (some ⟨w5.heap.size + 1 + 1 + 1 + 1 + 1, 0, none⟩) v3 :=
    ⟨p6, .inr ⟨_, 0, rfl, by have := e10.size; omega, fun i hi => by
      have : i = 0 ∨ i = 1 := by simp [v3] at hi; omega
      rcases this with rfl | rfl
      · exact ⟨_, 2, by rw [Nat.zero_add]; exact cell_to n0 e10, p7⟩
      · exact ⟨_, 1, by rw [Nat.zero_add]; exact cell_to n1 e10, p8⟩⟩, r10, by decide, by decide, by decide, by decide⟩
  have hva := (((((hv5.ext e5).ext e6).ext e7).ext e8).ext e9).ext e10
  have hb10 : Below w.heap.size w X10 := ((((((hb05.trans (e5.mono hb05.size)).trans (e6.mono (by have := hb05.size; omega))).trans (e7.mono (by have := hb05.size; omega))).trans (e8.mono (by have := hb05.size; omega))).trans (e9.mono (by have := hb05.size; omega))).trans (e10.mono (by have := hb05.size; omega)))
  have CS : Calls Try.prog 20 #[.agg #[.int .u64 v3.id, .slice qm v3.ms.length km, .slice ql v3.ls.length kl, .slice qd v3.ds.length kd], .agg #[.int .u64 1, .slice (some ⟨w5.heap.size + 1, 0, none⟩) 3 3, .slice (some ⟨w5.heap.size + 1 + 1 + 1 + 1, 0, none⟩) 2 2, .slice (some ⟨w5.heap.size + 1 + 1 + 1 + 1 + 1, 0, none⟩) 3 3]] X10 fun e w' => e = .returned (.bool true) ∧ Below X10.heap.size X10 w' := by
    have h := refSame_any v3 v3 qm ql qd (some ⟨w5.heap.size + 1, 0, none⟩) (some ⟨w5.heap.size + 1 + 1 + 1 + 1, 0, none⟩) (some ⟨w5.heap.size + 1 + 1 + 1 + 1 + 1, 0, none⟩) km kl kd 3 2 3 X10 hva hvl
    rw [sameB_refl] at h
    exact h
  have CS := hid CS
  have HB10 := hid hb10
  obtain ⟨a0, a1, b0, b1, c0, c1⟩ := x5
  obtain ⟨a0', a1', b0', b1', c0', c1'⟩ := x6
  obtain ⟨-, -, -, -, c02, c12⟩ := x7
  obtain ⟨a09, a19, b09, b19, c09, c19⟩ := x9
  obtain ⟨y0, y1, y2, y3⟩ := y5
  clear hb5 hb05 hx5 hv5 hst hm e5 e6 e7 e8 e9 e10 r6 r7 r8 r10 p6 p7 p8 hvl hva hb10 n0 n1 x8 C1 HX4 HB4
  go_wp2_with fail
  (with_reducible refine CS.out.mono ?_)
  rintro e w11 ⟨rfl, hb11⟩
  have HB11 := hid (HB10.out.trans (hb11.mono HB10.out.size))
  clear hb11 CS hX5 hX6 hX7 hX8 hX9 hX10 a0 a1 b0 b1 c0 c1 a0' a1' b0' b1' c0' c1' c02 c12 a09 a19 b09 b19 c09 c19 y0 y1 y2 y3
  go_wp2
  go_ret
  exact ⟨rfl, HB11.out⟩
end Go.Proofs.Ytbpfhclcjedkcaa

namespace Go.Proofs.Ytbpfhclcjedkcaa
open Go.RowKit

/-! ### what a view that may be is bounded by; great of a command -/
theorem lens_leC {n : Nat} : ∀ {ls : List (List Pid)}, (∀ l ∈ ls, l.length ≤ n) → lens ls ≤ ls.length * n
  | [], _ => by simp [lens]
  | l :: ls, h => by
    have h1 := h l (by simp)
    have h2 := lens_leC (ls := ls) (fun x hx => h x (by simp [hx]))
    simp only [lens, List.map_cons, List.sum_cons, List.length_cons] at *
    rw [Nat.add_mul]; omega
theorem great_noC {V : View} (h : greatB V = false) : V.ms.length ≤ 40 ∧ V.ls.length ≤ 40 ∧ V.ds.length ≤ 40 ∧ (∀ l ∈ V.ls, l.length ≤ 40) ∧ lens V.ls ≤ 1600 := by
  unfold greatB at h
  simp only [Bool.or_eq_false_iff, decide_eq_false_iff_not, List.any_eq_false] at h
  obtain ⟨a, b, c, d⟩ := h
  have d' : ∀ l ∈ V.ls, l.length ≤ 40 := fun l hl => by have := d l hl; simp at this; omega
  have := lens_leC d'
  exact ⟨by omega, by omega, by omega, d', by omega⟩
end Go.Proofs.Ytbpfhclcjedkcaa

