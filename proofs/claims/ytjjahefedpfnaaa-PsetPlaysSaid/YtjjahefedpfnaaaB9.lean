import Derived.Test.YtjjahefedpfnaaaB8
import Derived.Test.YtjjahefedpfnaaaOpenA
namespace Go.Proofs.Ytjjahefedpfnaaa
open Go.RowKit
def withoutP (xs : List Pid) (p : Pid) : List Pid := xs.filter fun q => !decide (q = p)
set_option maxRecDepth 100000 in
set_option maxHeartbeats 1600000 in
theorem without_any (a : Option Addr) (c : Nat) (xs : List Pid) (x y : Int) (w : World) (hn : xs.length ≤ 549755813888) (hx : PidRow w a xs) :
   Calls Try.prog 37 #[.slice a xs.length c, .agg #[.int .u16 x, .int .u32 y]] w fun e w' => ∃ v, e = .returned v ∧ OwnP w' w.heap.size v (withoutP xs (x, y)) ∧ Below w.heap.size w w' := by
  have hB0 : Below w.heap.size w (w.alloc (.cells #[.int .u16 x, .int .u32 y] 32)) := (Below.refl _ _).alloc (Nat.le_refl _) _
  have hx0 := hx.ext hB0
  have c0 : (w.alloc (.cells #[.int .u16 x, .int .u32 y] 32)).cell? ⟨w.heap.size, 0, none⟩ = some (.int .u16 x) := by simp
  have c1 : (w.alloc (.cells #[.int .u16 x, .int .u32 y] 32)).cell? ⟨w.heap.size, 1, none⟩ = some (.int .u32 y) := by simp
  obtain ⟨w1, hw1⟩ : ∃ w1, w.alloc (.cells #[.int .u16 x, .int .u32 y] 32) = w1 := ⟨_, rfl⟩
  have hz1 : w.heap.size ≤ w1.heap.size := by rw [← hw1]; simp
  rw [hw1] at hB0 hx0 c0 c1
  go_enter Try.func37, Try.ntmps37
  go_wp2
  clear hw1
  go_loopw [5, 6] (fun v i wr => ∃ (k : Nat) (got : List Pid), k ≤ xs.length ∧ i = .int .i64 k ∧ got.length ≤ k ∧ Hid (withoutP xs (x, y) = got ++ withoutP (xs.drop k) (x, y)) ∧ OwnP wr w1.heap.size v got ∧ Below w1.heap.size w1 wr) (fun _ i _ => xs.length - (intOf i).toNat)
  case atStart => exact ⟨0, [], Nat.zero_le _, rfl, Nat.le_refl _, rfl, OwnP.nil _ _, Below.refl _ _⟩
  case round =>
    obtain ⟨k, got, hk, rfl, hg, hM, hown, hb⟩ := hrel
    have hs0 := hb.size
    by_cases hlt : k < xs.length
    · have hl2 : decide ((k : Int) < (xs.length : Int)) = true := by simp; omega
      obtain ⟨pb, po, u, v, rfl, hpx, d1, d2⟩ := hx0.at hb rfl hlt
      have hfd := filter_drop hlt hpx (fun p => !decide (p = (x, y)))
      have e1 := cell_to c0 hb
      have e2 := cell_to c1 hb
      have he := fun w => neq_pid u v x y w
      cases hin : decide ((u, v) = (x, y))
      · rw [hin] at he hfd
        have HFD := hid hfd
        clear hfd hin hpx hx hx0
        have f0 := cell_extw d1
        have f1 := cell_extw d2
        have f2 := cell_extw e1
        have f3 := cell_extw e2
        clear e1 e2 c0 c1
        go_wp2
        refine wp_region_ext (w := wr) (Below.refl _ _) (by kernel_rfl) (by kernel_rfl) ?_
        repeat (go_big_quiet_step (fail))
        refine wpQuiet_nil ?_
        rintro w4 ⟨⟨_, hb4⟩, rfl⟩
        have q0 := cell_to d1 hb4
        have q1 := cell_to d2 hb4
        have hown4 := hown.ext hb4
        have hB4 := hb.trans (hb4.mono hs0)
        clear f0 f1 f2 f3 d1 d2 hb4 hown
        go_wp2_with (at_builtin; refine wpList_appendP (hown4.alloc _) (PidRow.one _ u v) ?cb ?cz rfl rfl rfl rfl ?_; rotate_right; intro v5 w5 hown5 hg5 hnil5)
        case cb => simp; omega
        case cz => have := hB4.size; simp; omega
        have hB5 : Below w1.heap.size w1 w5 := (hB4.alloc hB4.size _).grown hg5 (by simp; have := hB4.size; omega) (fun g hg => (World.ownsRow.lt hown4 g hg).1)
        clear hB4 hown4
        go_roundw
        case rel => exact ⟨k + 1, got ++ [(u, v)], by omega, by go_num, by simp; omega, hid (hM.out.trans (by unfold withoutP; rw [HFD.out]; simp)), hown5, hB5⟩
        case measure => simp [intOf]; omega
      · rw [hin] at he hfd
        have HFD := hid hfd
        clear hfd hin hpx hx hx0
        go_wp2
        go_quiet (fail)
        go_wp2
        go_roundw
        case rel => exact ⟨k + 1, got, by omega, by go_num, by omega, hid (hM.out.trans (by unfold withoutP; rw [HFD.out]; simp)), hown, below_drewN hb _⟩
        case measure => simp [intOf]; omega
    · have hl2 : decide ((k : Int) < (xs.length : Int)) = false := by simp; omega
      have hend : Hid (withoutP xs (x, y) = got) := by
        have := hM.out
        rw [List.drop_eq_nil_of_le (by omega)] at this
        rw [Hid, this]; simp [withoutP]
      go_wp2
      go_ret
      exact ⟨_, rfl, by rw [hend.out]; exact hown.mono hz1, hB0.trans (hb.mono hz1)⟩
end Go.Proofs.Ytjjahefedpfnaaa
