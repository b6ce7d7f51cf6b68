import Derived.Test.YtjcgijchmnnfaaaDoorD1
namespace Go.Proofs.YtjcgijchmnnfaaaDoor
open Go.RowKit
theorem neq_bal (n a b m c d : Int) (w : World) : (binOp .neq 27 (.agg #[.int .u32 n, .int .u16 a, .int .u32 b]) (.agg #[.int .u32 m, .int .u16 c, .int .u32 d])).run Tryd.prog w = .ok (.bool (!decide ((n, a, b) = (m, c, d)))) w := by
  have hS : Tryd.prog.underlying 27 = some (.struct (Tryd.prog.fieldsOf 27)) := by kernel_rfl
  have hp : Tryd.prog.stoodInHeld 27 = false := by kernel_rfl
  rw [run_neq_struct, show (10000 : Nat) = 9999 + 1 from rfl, run_equalIn_agg w 9999 27 _ _ hS hp]
  simp only [Program.fieldsOf, Tryd.underlying27]
  go_simp
  by_cases h1 : n = m <;> by_cases h2 : a = c <;> by_cases h3 : b = d <;> simp [h1, h2, h3]
theorem eql_bal (n a b m c d : Int) (w : World) : (binOp .eql 27 (.agg #[.int .u32 n, .int .u16 a, .int .u32 b]) (.agg #[.int .u32 m, .int .u16 c, .int .u32 d])).run Tryd.prog w = .ok (.bool (decide ((n, a, b) = (m, c, d)))) w := by
  have hS : Tryd.prog.underlying 27 = some (.struct (Tryd.prog.fieldsOf 27)) := by kernel_rfl
  have hp : Tryd.prog.stoodInHeld 27 = false := by kernel_rfl
  rw [run_eql_struct, show (10000 : Nat) = 9999 + 1 from rfl, run_equalIn_agg w 9999 27 _ _ hS hp]
  simp only [Program.fieldsOf, Tryd.underlying27]
  go_simp
  by_cases h1 : n = m <;> by_cases h2 : a = c <;> by_cases h3 : b = d <;> simp [h1, h2, h3]
theorem eql_pid (a b c d : Int) (w : World) : (binOp .eql 25 (.agg #[.int .u16 a, .int .u32 b]) (.agg #[.int .u16 c, .int .u32 d])).run Tryd.prog w = .ok (.bool (decide ((a, b) = (c, d)))) w := by
  have hS : Tryd.prog.underlying 25 = some (.struct (Tryd.prog.fieldsOf 25)) := by kernel_rfl
  have hp : Tryd.prog.stoodInHeld 25 = false := by kernel_rfl
  rw [run_eql_struct, show (10000 : Nat) = 9999 + 1 from rfl, run_equalIn_agg w 9999 25 _ _ hS hp]
  simp only [Program.fieldsOf, Tryd.underlying25]
  go_simp
  by_cases h1 : a = c <;> by_cases h2 : b = d <;> simp [h1, h2]

abbrev nextN (n : Int) : Int := if n = 4294967295 then 0 else n + 1
set_option maxHeartbeats 400000 in
theorem next_max (n a b c d : Int) (w : World) (hnm : n = 4294967295) : Calls Tryd.prog 11 #[.agg #[.int .u32 n, .int .u16 a, .int .u32 b], .agg #[.int .u16 c, .int .u32 d]] w fun e w' => e = .returned (.tuple #[.agg #[.int .u32 0, .int .u16 0, .int .u32 0], .int .i64 16]) ∧ Below w.heap.size w w' := by
  subst hnm
  go_enter Tryd.func11, Tryd.ntmps11
  go_wp2
  refine bodyPost_ret (v := .tuple #[.agg #[.int .u32 0, .int .u16 0, .int .u32 0], .int .i64 16]) (by simp [results, Tryd.results11, go_sem]) rfl ⟨rfl, ?_⟩
  refine Below.alloc (Below.alloc (Below.alloc (Below.refl _ _) ?_ _) ?_ _) ?_ _ <;> simp <;> omega
set_option maxHeartbeats 400000 in
theorem next_small (n a b c d : Int) (w : World) (hn0 : 0 ≤ n) (hn : n < 4294967296) (hnm : n ≠ 4294967295) : Calls Tryd.prog 11 #[.agg #[.int .u32 n, .int .u16 a, .int .u32 b], .agg #[.int .u16 c, .int .u32 d]] w fun e w' => e = .returned (.tuple #[.agg #[.int .u32 (n + 1), .int .u16 c, .int .u32 d], .int .i64 0]) ∧ Below w.heap.size w w' := by
  have e1 : (n == 4294967295) = false := by simpa using hnm
  go_enter Tryd.func11, Tryd.ntmps11
  go_wp2
  refine bodyPost_ret (v := .tuple #[.agg #[.int .u32 (n + 1), .int .u16 c, .int .u32 d], .int .i64 0]) (by simp [results, Tryd.results11, go_sem]) rfl ⟨rfl, ?_⟩
  refine Below.alloc (Below.alloc (Below.alloc (Below.refl _ _) ?_ _) ?_ _) ?_ _ <;> simp <;> omega

theorem before_irr {n a b : Int} (h : ok (a, b)) : before n (a, b) n (a, b) = false := by
  unfold before ahead; rw [if_pos rfl]; exact decide_eq_false (by omega)
theorem before_spell {n a b m c d : Int} (h1 : ok (a, b)) (h2 : ok (c, d)) : before n (a, b) m (c, d) = decide (n < m ∨ n = m ∧ (a < c ∨ a = c ∧ b < d)) := by
  rw [before_eq h1 h2]
  unfold beforeR aheadR
  simp only
  split
  · split
    · exact decide_eq_decide.mpr (by omega)
    · exact decide_eq_decide.mpr (by omega)
  · exact decide_eq_decide.mpr (by omega)
theorem before_asym {n a b m c d : Int} (h1 : ok (a, b)) (h2 : ok (c, d)) (h : before n (a, b) m (c, d) = true) : before m (c, d) n (a, b) = false := by
  rw [before_spell h1 h2] at h
  rw [before_spell h2 h1]
  simp only [decide_eq_true_eq] at h
  exact decide_eq_false (by omega)
theorem before_tot {n a b m c d : Int} (h1 : ok (a, b)) (h2 : ok (c, d)) (h : before n (a, b) m (c, d) = false) (hne : ¬ (n, a, b) = (m, c, d)) : before m (c, d) n (a, b) = true := by
  rw [before_spell h1 h2] at h
  rw [before_spell h2 h1]
  simp only [decide_eq_false_iff_not] at h
  simp only [Prod.mk.injEq] at hne
  exact decide_eq_true (by omega)
theorem before_trans {n a b m c d k e f : Int} (h1 : ok (a, b)) (h2 : ok (c, d)) (h3 : ok (e, f)) (h : before n (a, b) m (c, d) = true) (h' : before m (c, d) k (e, f) = true) : before n (a, b) k (e, f) = true := by
  rw [before_spell h1 h2] at h
  rw [before_spell h2 h3] at h'
  rw [before_spell h1 h3]
  simp only [decide_eq_true_eq] at h h'
  exact decide_eq_true (by omega)

/-- the plain law of PidStrict -/
theorem strict_plain {n a b m c d k e f : Int} (h1 : ok (a, b)) (h2 : ok (c, d)) (h3 : ok (e, f)) {A B C D N : Bool} (hA : before n (a, b) m (c, d) = A) (hB : before m (c, d) k (e, f) = B) (hC : before n (a, b) k (e, f) = C) (hD : before m (c, d) n (a, b) = D) (hN : (!decide ((n, a, b) = (m, c, d))) = N) :
    (A = true ∧ D = false ∧ B = true ∧ C = true) ∨ (A = true ∧ D = false ∧ B = false) ∨ (A = false ∧ N = false) ∨ (A = false ∧ N = true ∧ D = true) := by
  cases hA' : A
  · cases hN' : N
    · simp
    · subst hN' hA'
      have := before_tot h1 h2 hA (by intro h; rw [decide_eq_true h] at hN; cases hN)
      simp [← hD, this]
  · subst hA'
    have := before_asym h1 h2 hA
    cases hB' : B
    · simp [← hD, this]
    · subst hB'
      have := before_trans h1 h2 h3 hA hB
      simp_all
end Go.Proofs.YtjcgijchmnnfaaaDoor
