import Derived.Test.YtjjahefedpfnaaaE29
import Derived.Test.YtjjahefedpfnaaaA9
import Derived.Test.YtjjahefedpfnaaaA8
namespace Go.Proofs.Ytjjahefedpfnaaa
open Go.RowKit
theorem maskF_ext {M N : Nat × Nat} (hM : mok M) (hN : mok N) (h : ∀ j, j < 128 → maskF M j = maskF N j) : M = N := by
  rw [← mask_hor hM, ← mask_hor hN]
  have e : ∀ k, k + 64 ≤ 128 → hor (maskF M) k 64 = hor (maskF N) k 64 := fun k hk => by
    apply Nat.eq_of_testBit_eq
    intro j
    rw [hor_bit, hor_bit]
    by_cases hj : j < 64
    · rw [h (k + j) (by omega)]
    · simp [hj]
  rw [e 0 (by omega), e 64 (by omega)]
theorem maskL_ok {ms : List Pid} : ∀ {xs : List Pid} {M : Nat × Nat}, mok M → mok (maskL ms M xs)
  | [], _, h => h
  | _ :: l, _, h => maskL_ok (xs := l) (mset_ok h)
theorem maskL_F {ms : List Pid} : ∀ {xs : List Pid} {M : Nat × Nat} (j : Nat), j < 128 → maskF (maskL ms M xs) j = (maskF M j || xs.any fun p => decide (atIx ms p = (j : Int)))
  | [], _, _, _ => by simp [maskL]
  | p :: l, M, j, hj => by
    show maskF (maskL ms (mset M (atIx ms p)) l) j = _
    rw [maskL_F j hj, List.any_cons]
    by_cases hr : 0 ≤ atIx ms p ∧ atIx ms p < 128
    · rw [maskF_in hr j hj, Bool.or_assoc]
      congr 2
      rw [Bool.eq_iff_iff]; simp; omega
    · rw [maskF_out hr]
      have : decide (atIx ms p = (j : Int)) = false := by simp; omega
      rw [this, Bool.false_or]
def orM (M N : Nat × Nat) : Nat × Nat := (M.1 ||| N.1, M.2 ||| N.2)
theorem orM_ok {M N : Nat × Nat} (hM : mok M) (hN : mok N) : mok (orM M N) := ⟨Nat.or_lt_two_pow hM.1 hN.1, Nat.or_lt_two_pow hM.2 hN.2⟩
theorem mok0 : mok (0, 0) := ⟨by decide, by decide⟩
/-- a mask hangs on who is there -/
theorem maskL_same {ms xs ys : List Pid} (h : ∀ p, p ∈ ms → (p ∈ xs ↔ p ∈ ys)) : maskL ms (0, 0) xs = maskL ms (0, 0) ys := by
  refine maskF_ext (maskL_ok mok0) (maskL_ok mok0) fun j hj => ?_
  rw [maskL_F j hj, maskL_F j hj]
  congr 1
  rw [Bool.eq_iff_iff, List.any_eq_true, List.any_eq_true]
  have key : ∀ p : Pid, atIx ms p = (j : Int) → p ∈ ms := fun p hp => by
    have := atIx_nonneg (p := p) (xs := ms)
    rw [hp] at this
    simpa using this.symm
  constructor
  · rintro ⟨p, hp, hd⟩
    have := key p (by simpa using hd)
    exact ⟨p, (h p this).1 hp, hd⟩
  · rintro ⟨p, hp, hd⟩
    have := key p (by simpa using hd)
    exact ⟨p, (h p this).2 hp, hd⟩
end Go.Proofs.Ytjjahefedpfnaaa
namespace Go.Proofs.Ytjjahefedpfnaaa
open Go.RowKit
theorem maskF_or {M N : Nat × Nat} (j : Nat) : maskF (orM M N) j = (maskF M j || maskF N j) := by
  unfold maskF orM
  by_cases h : j < 64
  · simp only [if_pos h, Nat.testBit_or]
  · simp only [if_neg h, Nat.testBit_or]
theorem maskL_app {ms xs ys : List Pid} : maskL ms (0, 0) (xs ++ ys) = orM (maskL ms (0, 0) xs) (maskL ms (0, 0) ys) := by
  refine maskF_ext (maskL_ok mok0) (orM_ok (maskL_ok mok0) (maskL_ok mok0)) fun j hj => ?_
  rw [maskF_or, maskL_F j hj, maskL_F j hj, maskL_F j hj, List.any_append]
  cases maskF (0, 0) j <;> simp
set_option maxRecDepth 100000 in
set_option maxHeartbeats 1600000 in
theorem or_any (a b c d : Nat) (w : World) (hM : mok (a, b)) (hN : mok (c, d)) :
    Calls Try.prog 91 #[.agg #[.int .u64 a, .int .u64 b], .agg #[.int .u64 c, .int .u64 d]] w fun e w' => e = .returned (.agg #[.int .u64 (a ||| c : Nat), .int .u64 (b ||| d : Nat)]) ∧ Below w.heap.size w w' := by
  have e1 := or_u64 hM.1 hN.1
  have e2 := or_u64 hM.2 hN.2
  simp only at e1 e2
  have hB : Below w.heap.size w (((w.alloc (.cells #[.int .u64 a, .int .u64 b] 83)).alloc (.cells #[.int .u64 c, .int .u64 d] 83)).alloc (.cells #[.int .u64 0, .int .u64 0] 83)) := (((Below.refl _ _).alloc (Nat.le_refl _) _).alloc (by simp) _).alloc (by simp; omega) _
  have hbx := Box2.made ((w.alloc (.cells #[.int .u64 a, .int .u64 b] 83)).alloc (.cells #[.int .u64 c, .int .u64 d] 83)) (v0 := .int .u64 0) (v1 := .int .u64 0) 83
  simp only [World.size_alloc] at hbx
  obtain ⟨y0, y1, y2, y3⟩ := id hbx
  go_enter Try.func91, Try.ntmps91
  go_wp2
  exact bodyPost_ret (v := .agg #[.int .u64 (a ||| c : Nat), .int .u64 (b ||| d : Nat)]) (by simp [results, Try.results91, go_sem]) rfl ⟨rfl, (((Below.refl _ _).alloc (Nat.le_refl _) _).alloc (by simp) _).alloc (by simp; omega) _⟩
theorem part_drop {S : Pid → Bool} {xs : List Pid} {k : Nat} (h : k < xs.length) {x y : Int} (hx : (x, y) = xs[k]) : soundL S (xs.drop k) = if S (x, y) = true then soundL S (xs.drop (k + 1)) else (x, y) :: soundL S (xs.drop (k + 1)) := soundL_drop h hx
set_option maxRecDepth 100000 in
set_option maxHeartbeats 6400000 in
theorem part_any (r : Nat → Int) (a : Option Addr) (c : Nat) (xs : List Pid) (w : World) (hwf : WfPids xs) (hn : xs.length ≤ 549755813888) (hrow : PidRow w a xs) :
    Calls Try.prog 67 #[.agg (RL r).toArray, .slice a xs.length c, .bool false] w fun e w' => ∃ v, e = .returned v ∧ OwnP w' w.heap.size v (soundL (hasRu r) xs) ∧ Below w.heap.size w w' := by
  have hB1 : Below w.heap.size w (w.alloc (.cells (RL r).toArray 70)) := (Below.refl _ _).alloc (Nat.le_refl _) _
  have hR1 := RumBox.madeV w r
  have hx1 := hrow.ext hB1
  have hz1 : w.heap.size < (w.alloc (.cells (RL r).toArray 70)).heap.size := by simp
  have hu70 := Try.underlying70
  have hi70 := info70L r
  go_enter Try.func67, Try.ntmps67
  go_wp2
  generalize hw1 : w.alloc (.cells (RL r).toArray 70) = w1 at hB1 hR1 hx1 hz1 ⊢
  clear hw1
  go_loopw [7, 8] (fun v i wr => ∃ (k : Nat) (got : List Pid), k ≤ xs.length ∧ i = .int .i64 k ∧ got.length ≤ k ∧ Hid (soundL (hasRu r) xs = got ++ soundL (hasRu r) (xs.drop k)) ∧ OwnP wr w1.heap.size v got ∧ Below w1.heap.size w1 wr) (fun _ i _ => xs.length - (intOf i).toNat)
  case atStart => exact ⟨0, [], Nat.zero_le _, rfl, Nat.le_refl _, rfl, OwnP.nil _ _, Below.refl _ _⟩
  case round =>
    obtain ⟨k, got, hk, rfl, hg, hM, hown, hb⟩ := hrel
    have hs0 := hb.size
    by_cases hlt : k < xs.length
    · have hlt' : decide (k < xs.length) = true := by simpa using hlt
      obtain ⟨pb, po, x, y, rfl, hpx, d1, d2⟩ := hx1.at hb rfl hlt
      have hxy : 0 ≤ x ∧ 0 ≤ y := by have := hwf (x, y) (by rw [hpx]; exact List.getElem_mem _); exact ⟨this.1, this.2.2.1⟩
      have hfd := soundL_drop (S := hasRu r) hlt hpx
      have HS : Hid (∀ W, Below wr.heap.size wr W → Below wr.heap.size wr W ∧ W.rangeAt w.heap.size 0 (RL r) ∧ W.cell? ⟨pb, po + k * 2, none⟩ = some (.int .u16 x) ∧ W.cell? ⟨pb, po + k * 2 + 1, none⟩ = some (.int .u32 y)) :=
        hid fun W h => ⟨h, ((hR1.ext hb hz1).ext h (by omega)).range, cell_to d1 h, cell_to d2 h⟩
      have H0 : Below wr.heap.size wr wr.drew := (Below.refl _ _).drew
      cases hs : hasRu r (x, y)
      · rw [hs] at hfd
        have HH := hid hs
        have HFD := hid hfd
        have C1 : Hid (∀ W, Below wr.heap.size wr W → Calls Try.prog 50 #[.agg (RL r).toArray, .agg #[.int .u16 x, .int .u32 y]] W fun e w' => e = .returned (.bool false) ∧ Below wr.heap.size wr w') := hid fun W h => rel h (hasRef_is hxy.1 hxy.2 HH) rfl
        clear hs hfd hR1 hx1 hpx hwf hrow
        go_wp2_with fail
        go_region_held3 (fun W => Below wr.heap.size wr W ∧ W.rangeAt w.heap.size 0 (RL r) ∧ W.cell? ⟨pb, po + k * 2, none⟩ = some (.int .u16 x) ∧ W.cell? ⟨pb, po + k * 2 + 1, none⟩ = some (.int .u32 y)) (first | exact HS.out _ H0 | exact HS.out _ (by assumption)) ((go_at_call 50; refine (C1.out _ (by assumption)).mono ?_; rintro e w' ⟨rfl, hb'⟩))
        have e1 := (HS.out _ hb').2.2.1
        have e2 := (HS.out _ hb').2.2.2
        have hBw := hb.trans (hb'.mono hs0)
        go_wp2_with ((at_builtin; refine wpList_appendP ((hown.ext hb').alloc _) (PidRow.one' _ (by simp) x y) (by simp; omega) (Nat.le_trans hBw.size (by simp)) rfl rfl rfl rfl ?_; intro v9 w9 hown9 hg9 hnil9))
        have hB9 : Below w1.heap.size w1 w9 := (hBw.alloc hBw.size _).grown hg9 (Nat.le_trans hBw.size (by simp)) (fun g hg => (World.ownsRow.lt hown g hg).1)
        go_roundw
        case rel => exact ⟨k + 1, got ++ [(x, y)], by omega, by go_num, by simp; omega, hid (hM.out.trans (by rw [HFD.out]; simp)), hown9, hB9⟩
        case measure => simp [intOf]; omega
      · rw [hs] at hfd
        have HH := hid hs
        have HFD := hid hfd
        have C1 : Hid (∀ W, Below wr.heap.size wr W → Calls Try.prog 50 #[.agg (RL r).toArray, .agg #[.int .u16 x, .int .u32 y]] W fun e w' => e = .returned (.bool true) ∧ Below wr.heap.size wr w') := hid fun W h => rel h (hasRef_is hxy.1 hxy.2 HH) rfl
        clear hs hfd hR1 hx1 hpx hwf hrow
        go_wp2_with fail
        go_region_held3 (fun W => Below wr.heap.size wr W ∧ W.rangeAt w.heap.size 0 (RL r) ∧ W.cell? ⟨pb, po + k * 2, none⟩ = some (.int .u16 x) ∧ W.cell? ⟨pb, po + k * 2 + 1, none⟩ = some (.int .u32 y)) (first | exact HS.out _ H0 | exact HS.out _ (by assumption)) ((go_at_call 50; refine (C1.out _ (by assumption)).mono ?_; rintro e w' ⟨rfl, hb'⟩))
        go_wp2
        go_roundw
        case rel => exact ⟨k + 1, got, by omega, by go_num, by omega, hid (hM.out.trans (by rw [HFD.out]; simp)), hown.ext hb', hb.trans (hb'.mono hs0)⟩
        case measure => simp [intOf]; omega
    · have hlt' : decide (k < xs.length) = false := by simpa using hlt
      have hend : Hid (soundL (hasRu r) xs = got) := by
        have := hM.out
        rw [List.drop_eq_nil_of_le (by omega)] at this
        rw [Hid, this]; simp [soundL]
      go_wp2
      go_ret
      exact ⟨_, rfl, by rw [hend.out]; exact hown.mono (by omega), hB1.trans (hb.mono (by omega))⟩
end Go.Proofs.Ytjjahefedpfnaaa
namespace Go.Proofs.Ytjjahefedpfnaaa
open Go.RowKit
/-! ### whom what goes down reaches, in plain words -/
def nextF (V : View) (S : Pid → Bool) (l : List Pid) : List Pid := l.flatMap (downP V S)
def allS (V : View) (S : Pid → Bool) : Nat → List Pid → List Pid
  | 0, l => l
  | n + 1, l => l ++ allS V S n (nextF V S l)
/-- the same processes -/
def Like (l m : List Pid) : Prop := ∀ q, q ∈ l ↔ q ∈ m
theorem next_like {V : View} {S : Pid → Bool} {l m : List Pid} (h : Like l m) : Like (nextF V S l) (nextF V S m) := fun q => by
  unfold nextF
  rw [List.mem_flatMap, List.mem_flatMap]
  exact ⟨fun ⟨p, hp, hq⟩ => ⟨p, (h p).1 hp, hq⟩, fun ⟨p, hp, hq⟩ => ⟨p, (h p).2 hp, hq⟩⟩
theorem all_like {V : View} {S : Pid → Bool} : ∀ {n : Nat} {l m : List Pid}, Like l m → Like (allS V S n l) (allS V S n m)
  | 0, _, _, h => h
  | n + 1, _, _, h => fun q => by
    unfold allS
    rw [List.mem_append, List.mem_append, h q, all_like (n := n) (next_like h) q]
/-- got, with what is still to come, is all -/
def Still (V : View) (S : Pid → Bool) (T : List Pid) (n : Nat) (got front : List Pid) : Prop := (∀ q, q ∈ T ↔ q ∈ got ∨ q ∈ allS V S n front) ∧ ∀ q ∈ front, q ∈ got
theorem still_begin {V : View} {S : Pid → Bool} {n : Nat} {p : Pid} : Still V S (allS V S n [p]) n [p] [p] := by
  refine ⟨fun q => ⟨fun h => .inr h, fun h => ?_⟩, fun q h => h⟩
  rcases h with h | h
  · cases n with
    | zero => exact h
    | succ n => unfold allS; exact List.mem_append.2 (.inl h)
  · exact h
theorem still_step {V : View} {S : Pid → Bool} {T : List Pid} {n : Nat} {got front front2 : List Pid} (h : Still V S T (n + 1) got front) (hl : Like front2 (nextF V S front)) : Still V S T n (got ++ front2) front2 := by
  refine ⟨fun q => ?_, fun q hq => List.mem_append.2 (.inr hq)⟩
  rw [h.1 q]
  have ha := all_like (V := V) (S := S) (n := n) hl q
  have hf : q ∈ front2 → q ∈ allS V S n front2 := fun hq => by
    cases n with
    | zero => exact hq
    | succ n => unfold allS; exact List.mem_append.2 (.inl hq)
  have e : allS V S (n + 1) front = front ++ allS V S n (nextF V S front) := rfl
  rw [e, List.mem_append, List.mem_append]
  constructor
  · rintro (h1 | h1 | h1)
    · exact .inl (.inl h1)
    · exact .inl (.inl (h.2 q h1))
    · exact .inr (ha.2 h1)
  · rintro ((h1 | h1) | h1)
    · exact .inl h1
    · exact .inr (.inr (ha.1 (hf h1)))
    · exact .inr (.inr (ha.1 h1))
theorem still_end {V : View} {S : Pid → Bool} {T got front : List Pid} (h : Still V S T 0 got front) : Like T got := fun q => by
  rw [h.1 q]
  exact ⟨fun h1 => h1.elim id (h.2 q), .inl⟩
theorem still_mask {V : View} {S : Pid → Bool} {T got front : List Pid} (h : Still V S T 0 got front) : maskL V.ms (0, 0) T = maskL V.ms (0, 0) got :=
  maskL_same fun p _ => still_end h p
/-- how many steps are taken -/
def stepsN (steps : Int) : Nat := (min steps 4).toNat
def reachM (V : View) (S : Pid → Bool) (p : Pid) (steps : Int) : Nat × Nat := if p ∈ V.ms then maskL V.ms (0, 0) (allS V S (stepsN steps) [p]) else (0, 0)
end Go.Proofs.Ytjjahefedpfnaaa
namespace Go.Proofs.Ytjjahefedpfnaaa
open Go.RowKit
theorem neq_mask (a b c d : Int) (w : World) : (binOp .neq 83 (.agg #[.int .u64 a, .int .u64 b]) (.agg #[.int .u64 c, .int .u64 d])).run Try.prog w = .ok (.bool (!decide ((a, b) = (c, d)))) w := by
  obtain ⟨i, hi⟩ : ∃ i, Try.prog.info? 65 = some i := Option.isSome_iff_exists.1 (show (Try.prog.info? 65).isSome = true by kernel_rfl)
  have hc : Try.prog.cellsOf 65 = 1 := by kernel_rfl
  have h := run_equalIn_array (P := Try.prog) (w := w) 9999 (e := 65) (n := 2) #[.int .u64 a, .int .u64 b] #[.int .u64 c, .int .u64 d] Try.underlying83 hi
  go_simp
  simp only [Op.eqItems]
  go_simp
  by_cases h1 : a = c <;> by_cases h2 : b = d <;> simp [h1, h2]
/-- a member's mask isn't empty -/
theorem mask_some {ms : List Pid} {p : Pid} (h : p ∈ ms) (hl : ms.length ≤ 128) : maskL ms (0, 0) [p] ≠ (0, 0) := fun e => by
  have hi : 0 ≤ atIx ms p := by have := atIx_nonneg (p := p) (xs := ms); rw [decide_eq_true h] at this; simpa using this
  have hu : atIx ms p < 128 := by
    have key : ∀ (xs : List Pid) (k : Nat), atFrom p xs k < k + xs.length + 1 := by
      intro xs
      induction xs with
      | nil => intro k; simp [atFrom]; omega
      | cons x r ih => intro k; unfold atFrom; split; (simp; omega); (have := ih (k + 1); simp; omega)
    have key2 : ∀ (xs : List Pid) (k : Nat), p ∈ xs → atFrom p xs k < k + xs.length := by
      intro xs
      induction xs with
      | nil => intro k h; cases h
      | cons x r ih =>
        intro k h
        unfold atFrom
        split
        · simp; omega
        · next hx =>
          have hr : p ∈ r := by rcases List.mem_cons.1 h with h | h; exact absurd h.symm hx; exact h
          have := ih (k + 1) hr
          simp; omega
    have := key2 ms 0 h
    unfold atIx; omega
  obtain ⟨j, hj⟩ := Int.eq_ofNat_of_zero_le hi
  have hF := maskL_F (ms := ms) (xs := [p]) (M := (0, 0)) j (by omega)
  rw [e] at hF
  have z : maskF (0, 0) j = false := by unfold maskF; split <;> simp
  rw [z] at hF
  simp [hj] at hF
theorem mask_none {ms : List Pid} {p : Pid} (h : p ∉ ms) : maskL ms (0, 0) [p] = (0, 0) := by
  have : maskL ms (0, 0) [p] = maskL ms (0, 0) [] := maskL_same fun q hq => by
    simp only [List.mem_singleton, List.not_mem_nil, iff_false]
    intro e; subst e; exact h hq
  rw [this]; rfl
end Go.Proofs.Ytjjahefedpfnaaa
