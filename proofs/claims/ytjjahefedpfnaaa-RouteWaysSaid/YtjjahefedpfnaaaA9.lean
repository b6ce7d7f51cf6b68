import Derived.Test.YtjjahefedpfnaaaA8
namespace Go.Proofs.Ytjjahefedpfnaaa
open Go.RowKit

theorem run_loadVar_arr {P : Program} (w : World) (g : Nat) (ty : TypeId) (n : Nat) (f : Nat → Value) (d : TypeDesc) (hc : ∀ j, j < n → w.cell? ⟨g, j, none⟩ = some (f j))
    (hu : P.underlying ty = some d) (hd : (match d with | .struct _ | .array _ _ => true | _ => false) = true) (hi : (P.info? ty).map (·.size) = some n) :
    (loadVar ty ⟨g, 0, none⟩).run P w = .ok (.agg ((List.range n).map f).toArray) w := by
  have hl : (loadCells ⟨g, 0, none⟩ n).run P w = .ok ((List.range n).map f).toArray w := run_loadCells w _ n f fun j hj => by
    have hadd : (⟨g, 0, none⟩ : Addr).add j = ⟨g, j, none⟩ := by unfold Addr.add; split <;> simp_all
    rw [hadd]; exact hc j hj
  cases hq : P.info? ty with
  | none => simp [hq] at hi
  | some i =>
    have hs : i.size = n := by simpa [hq] using hi
    have hagg : (isAgg ty).run P w = .ok true w := by
      unfold isAgg
      rw [Sem.run_bind, run_underlying hu w]
      cases d <;> simp_all
    simp [loadVar, Sem.run_bind, hagg, sizeOf, typeInfo, hq, hs, hl]
theorem wpList_load_arr {P : Program} {ops : Array Oper} {rest : List Oper} {o : Oper} {a : Act} {w : World} {Q : Exit → Act → World → Prop} {g : Nat} {n : Nat} {f : Nat → Value} (hc : ∀ j, j < n → w.cell? ⟨g, j, none⟩ = some (f j)) (d : TypeDesc) (ty : TypeId) (x : Operand)
    (hgd : o.guard = none) (ho : o.op = .load ty x) (hx : a.eval x = .pointer (some ⟨g, 0, none⟩))
    (hu : P.underlying ty = some d) (hd : (match d with | .struct _ | .array _ _ => true | _ => false) = true) (hi : (P.info? ty).map (·.size) = some n)
    (h : wpList P ops Q rest (a.put o.dst (.agg ((List.range n).map f).toArray)) w) : wpList P ops Q (o :: rest) a w :=
  wpList_plain hgd fun _ hK => by
    unfold Oper.wp execOp
    simp only [ho, hx, Instr.loadAt, Instr.sureAddr, Sem.run_bind, Sem.run_pure, Result.andThen_ok, run_loadVar_arr w g ty n f d hc hu hd hi]
    exact hK _ _ h
theorem zero90 : ∀ j, j < 128 → Try.zeroCells108[j]? = some (.bool false) := by
  have : Try.zeroCells108 = Array.replicate 128 (.bool false) := by kernel_rfl
  intro j hj
  rw [this]; simp [hj]
theorem of_hid {bs : Array Value} {f : Nat → Bool} {w : World} {a b : Int} (hs : bs.size = 128) (hf : ∀ j, j < 128 → bs[j]? = some (.bool (f j))) (h : Hid (((hor f 0 64 : Nat) : Int) = a ∧ ((hor f 64 64 : Nat) : Int) = b)) :
   Calls Try.prog 92 #[.agg bs] w fun e w' => e = .returned (.agg #[.int .u64 a, .int .u64 b]) ∧ Below w.heap.size w w' := by
  have := of_any bs f w hs hf
  rw [h.out.1, h.out.2] at this
  exact this

set_option maxRecDepth 100000 in
set_option maxHeartbeats 3200000 in
theorem refMask_any (V : View) (am al ad : Option Addr) (cm cl cd : Nat) (a : Option Addr) (c : Nat) (xs : List Pid) (w : World) (hV : ViewR w am al ad V) (hn : xs.length ≤ 70368744177664) (hrow : PidRow w a xs) :
   Calls Try.prog 66 #[.agg #[.int .u64 V.id, .slice am V.ms.length cm, .slice al V.ls.length cl, .slice ad V.ds.length cd], .slice a xs.length c] w fun e w' => e = .returned (.agg #[.int .u64 (maskL V.ms (0, 0) xs).1, .int .u64 (maskL V.ms (0, 0) xs).2]) ∧ Below w.heap.size w w' := by
  have hB3 : Below w.heap.size w (((w.alloc (.cells #[.int .u64 V.id, .slice am V.ms.length cm, .slice al V.ls.length cl, .slice ad V.ds.length cd] 68)).alloc (.cells #[.int .u64 0, .int .u64 0] 83)).alloc (.cells Try.zeroCells108 108)) := (((Below.refl _ _).alloc (Nat.le_refl _) _).alloc (by simp) _).alloc (by simp; omega) _
  have hz : w.heap.size + 1 + 1 < (((w.alloc (.cells #[.int .u64 V.id, .slice am V.ms.length cm, .slice al V.ls.length cl, .slice ad V.ds.length cd] 68)).alloc (.cells #[.int .u64 0, .int .u64 0] 83)).alloc (.cells Try.zeroCells108 108)).heap.size := by simp
  have hlm := hV.lm
  have k0 : (((w.alloc (.cells #[.int .u64 V.id, .slice am V.ms.length cm, .slice al V.ls.length cl, .slice ad V.ds.length cd] 68)).alloc (.cells #[.int .u64 0, .int .u64 0] 83)).alloc (.cells Try.zeroCells108 108)).cell? ⟨w.heap.size, 1, none⟩ = some (.slice am V.ms.length cm) := by
    rw [World.cell?_alloc_past _ _ _ (by simp; omega), World.cell?_alloc_past _ _ _ (by simp)]; simp
  have k1 : ∀ j, j < 2 → (((w.alloc (.cells #[.int .u64 V.id, .slice am V.ms.length cm, .slice al V.ls.length cl, .slice ad V.ds.length cd] 68)).alloc (.cells #[.int .u64 0, .int .u64 0] 83)).alloc (.cells Try.zeroCells108 108)).cell? ⟨w.heap.size + 1, j, none⟩ = some (.int .u64 0) := by
    intro j hj
    rw [World.cell?_alloc_past _ _ _ (by simp), World.cell?_alloc_at _ _ _ _ (by simp)]
    rcases j with _ | _ | j
    · simp
    · simp
    · omega
  have k2 : ∀ j, (((w.alloc (.cells #[.int .u64 V.id, .slice am V.ms.length cm, .slice al V.ls.length cl, .slice ad V.ds.length cd] 68)).alloc (.cells #[.int .u64 0, .int .u64 0] 83)).alloc (.cells Try.zeroCells108 108)).frozen? ⟨w.heap.size + 1, j, none⟩ = false := by
    intro j
    rw [frozen?_alloc_cells, frozen?_alloc_cells, frozen?_alloc_cells]; unfold World.frozen?; rw [Array.getElem?_eq_none (by simp)]
  have k3 : ∀ j, j < 128 → (((w.alloc (.cells #[.int .u64 V.id, .slice am V.ms.length cm, .slice al V.ls.length cl, .slice ad V.ds.length cd] 68)).alloc (.cells #[.int .u64 0, .int .u64 0] 83)).alloc (.cells Try.zeroCells108 108)).cell? ⟨w.heap.size + 1 + 1, j, none⟩ = some (.bool false) := by
    intro j hj
    rw [World.cell?_alloc_at _ _ _ _ (by simp)]; exact zero90 j hj
  have k4 : ∀ j, (((w.alloc (.cells #[.int .u64 V.id, .slice am V.ms.length cm, .slice al V.ls.length cl, .slice ad V.ds.length cd] 68)).alloc (.cells #[.int .u64 0, .int .u64 0] 83)).alloc (.cells Try.zeroCells108 108)).frozen? ⟨w.heap.size + 1 + 1, j, none⟩ = false := by
    intro j
    rw [frozen?_alloc_cells, frozen?_alloc_cells, frozen?_alloc_cells]; unfold World.frozen?; rw [Array.getElem?_eq_none (by simp; omega)]
  have HK := hid (And.intro k0 (And.intro k1 (And.intro k2 (And.intro k3 k4))))
  clear k0 k1 k2 k3 k4
  go_enter Try.func66, Try.ntmps66
  go_wp2
  revert hB3 hz HK
  generalize ((w.alloc (.cells #[.int .u64 V.id, .slice am V.ms.length cm, .slice al V.ls.length cl, .slice ad V.ds.length cd] 68)).alloc (.cells #[.int .u64 0, .int .u64 0] 83)).alloc (.cells Try.zeroCells108 108) = w3
  intro hB3 hz HK
  have hV3 := hV.ext hB3
  have hr3 := hrow.ext hB3
  go_loopw [6, 7] (fun i _ wr => ∃ (k A B : Nat), k ≤ xs.length ∧ i = .int .i64 k ∧ mok (A, B) ∧ Hid (maskL V.ms (0, 0) xs = maskL V.ms (A, B) (xs.drop k)) ∧ Below w.heap.size w wr ∧ w.heap.size + 1 + 1 < wr.heap.size ∧ Hid (wr.cell? ⟨w.heap.size, 1, none⟩ = some (.slice am V.ms.length cm) ∧ (∀ j, j < 2 → wr.cell? ⟨w.heap.size + 1, j, none⟩ = some (.int .u64 0)) ∧ (∀ j, wr.frozen? ⟨w.heap.size + 1, j, none⟩ = false) ∧ (∀ j, j < 128 → wr.cell? ⟨w.heap.size + 1 + 1, j, none⟩ = some (.bool (maskF (A, B) j))) ∧ (∀ j, wr.frozen? ⟨w.heap.size + 1 + 1, j, none⟩ = false))) (fun i _ _ => xs.length - (intOf i).toNat)
  case atStart =>
    obtain ⟨k0, k1, k2, k3, k4⟩ := HK.out
    exact ⟨0, 0, 0, Nat.zero_le _, rfl, ⟨by decide, by decide⟩, rfl, hB3, hz, hid ⟨k0, k1, k2, fun j hj => by rw [k3 j hj]; simp [maskF], k4⟩⟩
  case round =>
    obtain ⟨k, A, B, hk, rfl, hok, hq, hb, hsz, HC⟩ := hrel
    by_cases hlt : k < xs.length
    · obtain ⟨b, off, x, y, rfl, hx, d1, d2⟩ := hrow.at hb rfl hlt
      obtain ⟨I, hI⟩ : ∃ I, atIx V.ms (x, y) = I := ⟨_, rfl⟩
      have hd := maskL_drop (ms := V.ms) (M := (A, B)) hlt hx
      rw [hI] at hd
      have hVr := hV.ms.ext hb
      have HI := hid hI
      have HD := hid hd
      have g1 := cell_extw d1
      have g2 := cell_extw d2
      have c0 := HC.out.1
      have g0 := cell_extw c0
      clear hI hd hx d1 d2 c0
      by_cases hneg : 0 ≤ I
      · have hneg' : decide (0 ≤ I) = true := by simpa using hneg
        obtain ⟨n, rfl⟩ := Int.eq_ofNat_of_zero_le hneg
        by_cases h128 : n < 128
        · have h128' : decide ((n : Int) < 128) = true := by simp; omega
          have h128n : decide (n < 128) = true := by simp; omega
          have hF := fun j hj => maskF_in (M := (A, B)) (i := (n : Int)) ⟨by omega, by omega⟩ j hj
          obtain ⟨A', B', hAB⟩ : ∃ A' B', mset (A, B) n = (A', B') := ⟨_, _, rfl⟩
          have hok' : mok (A', B') := by rw [← hAB]; exact mset_ok hok
          rw [hAB] at hF
          have HF := hid hF
          have HAB := hid hAB
          clear hF hAB
          go_wp2
          refine wp_region_ext (w := wr) (Below.refl _ _) (by kernel_rfl) (by kernel_rfl) ?_
          repeat (go_big_quiet_step (with_reducible exact at_ext hVr hlm HI))
          refine wpQuiet_nil ?_
          rintro w9 ⟨⟨_, hb9⟩, rfl⟩
          have s9 := hb9.size
          have e9 := (hb9.cell (p := ⟨w.heap.size + 1 + 1, n, none⟩) hsz).trans (HC.out.2.2.2.1 n h128)
          have f9 := (hb9.frozen (p := ⟨w.heap.size + 1 + 1, n, none⟩) hsz).trans (HC.out.2.2.2.2 n)
          have q9 := hb.trans (hb9.mono hb.size)
          go_wp2
          go_roundw
          case rel =>
            refine ⟨k + 1, A', B', by omega, by go_num, hok', hq.out.trans (by rw [HD.out, HAB.out]), q9.setCell (by simp; omega) _, by simp; omega, ?_⟩
            obtain ⟨a0, a1, a2, a3, a4⟩ := HC.out
            refine hid ⟨?_, fun j hj => ?_, fun j => ?_, fun j hj => ?_, fun j => ?_⟩
            · rw [off1 (by omega), hb9.cell (by simp; omega), a0]
            · rw [off1 (by omega), hb9.cell (by simp; omega), a1 j hj]
            · simp [hb9.frozen (p := ⟨w.heap.size + 1, j, none⟩) (by simp; omega), a2 j]
            · rw [HF.out j hj]
              by_cases hjn : j = n
              · subst hjn
                rw [World.cell?_setCell_same _ _ _ e9]; simp
              · rw [off2 hjn, hb9.cell (by simp; omega), a3 j hj]
                simp [hjn]
            · simp [hb9.frozen (p := ⟨w.heap.size + 1 + 1, j, none⟩) (by simp; omega), a4 j]
          case measure => simp [intOf]; omega
        · have h128' : decide ((n : Int) < 128) = false := by simp; omega
          have h128n : decide (n < 128) = false := by simp; omega
          have hS : mset (A, B) n = (A, B) := maskF_out (by omega)
          have HS := hid hS
          clear hS
          go_wp2
          refine wp_region_ext (w := wr) (Below.refl _ _) (by kernel_rfl) (by kernel_rfl) ?_
          repeat (go_big_quiet_step (with_reducible exact at_ext hVr hlm HI))
          refine wpQuiet_nil ?_
          rintro w9 ⟨⟨_, hb9⟩, rfl⟩
          have s9 := hb9.size
          have q9 := hb.trans (hb9.mono hb.size)
          go_wp2
          go_roundw
          case rel =>
            refine ⟨k + 1, A, B, by omega, by go_num, hok, hq.out.trans (by rw [HD.out, HS.out]), q9, by omega, ?_⟩
            obtain ⟨a0, a1, a2, a3, a4⟩ := HC.out
            exact hid ⟨(hb9.cell (by simp; omega)).trans a0, fun j hj => (hb9.cell (by simp; omega)).trans (a1 j hj), fun j => (hb9.frozen (by simp; omega)).trans (a2 j), fun j hj => (hb9.cell (by simp; omega)).trans (a3 j hj), fun j => (hb9.frozen (by simp; omega)).trans (a4 j)⟩
          case measure => simp [intOf]; omega
      · have hneg' : decide (0 ≤ I) = false := by simpa using hneg
        have hS : mset (A, B) I = (A, B) := maskF_out (by omega)
        have HS := hid hS
        clear hS
        go_wp2
        refine wp_region_ext (w := wr) (Below.refl _ _) (by kernel_rfl) (by kernel_rfl) ?_
        repeat (go_big_quiet_step (with_reducible exact at_ext hVr hlm HI))
        refine wpQuiet_nil ?_
        rintro w9 ⟨⟨_, hb9⟩, rfl⟩
        have s9 := hb9.size
        have q9 := hb.trans (hb9.mono hb.size)
        go_wp2
        go_roundw
        case rel =>
          refine ⟨k + 1, A, B, by omega, by go_num, hok, hq.out.trans (by rw [HD.out, HS.out]), q9, by omega, ?_⟩
          obtain ⟨a0, a1, a2, a3, a4⟩ := HC.out
          exact hid ⟨(hb9.cell (by simp; omega)).trans a0, fun j hj => (hb9.cell (by simp; omega)).trans (a1 j hj), fun j => (hb9.frozen (by simp; omega)).trans (a2 j), fun j hj => (hb9.cell (by simp; omega)).trans (a3 j hj), fun j => (hb9.frozen (by simp; omega)).trans (a4 j)⟩
        case measure => simp [intOf]; omega
    · have hend : maskL V.ms (0, 0) xs = (A, B) := by rw [hq.out, List.drop_eq_nil_of_le (by omega)]; rfl
      have HE := hid hend
      have hm := mask_hor hok
      have HM : Hid (((hor (maskF (A, B)) 0 64 : Nat) : Int) = A ∧ ((hor (maskF (A, B)) 64 64 : Nat) : Int) = B) := hid ⟨congrArg (fun p : Nat × Nat => (p.1 : Int)) hm, congrArg (fun p : Nat × Nat => (p.2 : Int)) hm⟩
      clear hend hm
      have hbs : ∀ j, j < 128 → ((List.range 128).map fun j => Value.bool (maskF (A, B) j)).toArray[j]? = some (.bool (maskF (A, B) j)) := by
        intro j hj; simp [hj]
      have HBS := hid hbs
      clear hbs
      go_wp2_with (first | (refine wpList_load_arr (n := 128) HC.out.2.2.2.1 _ 108 _ rfl rfl rfl Try.underlying108 rfl (by kernel_rfl) ?_) | (go_at_call 92; refine (of_hid (by simp) HBS.out HM).mono ?_; rintro e w4 ⟨rfl, hb4⟩; have y0 := (hb4.cell (p := ⟨w.heap.size + 1, 0, none⟩) (by simp; omega)).trans (HC.out.2.1 0 (by decide)); have y1 := (hb4.cell (p := ⟨w.heap.size + 1, 1, none⟩) (by simp; omega)).trans (HC.out.2.1 1 (by decide)); have y2 := (hb4.frozen (p := ⟨w.heap.size + 1, 0, none⟩) (by simp; omega)).trans (HC.out.2.2.1 0); have y3 := (hb4.frozen (p := ⟨w.heap.size + 1, 1, none⟩) (by simp; omega)).trans (HC.out.2.2.1 1)))
      obtain ⟨t0, t1⟩ := two_cell (x := .int .u64 A) (y := .int .u64 B) y0 y1
      refine bodyPost_ret (v := .agg #[.int .u64 A, .int .u64 B]) (by simp [results, Try.results66, go_sem, t0, t1]) rfl ⟨by rw [HE.out], ((hb.trans (hb4.mono hb.size)).setCell (by simp) _).setCell (by simp) _⟩
end Go.Proofs.Ytjjahefedpfnaaa
