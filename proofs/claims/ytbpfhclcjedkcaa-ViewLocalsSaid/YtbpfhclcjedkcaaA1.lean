import Derived.Test.YtbpfhclcjedkcaaL2
import Derived.Deep.RegionWith
namespace Go.Proofs.Ytbpfhclcjedkcaa
open Go.RowKit

set_option maxRecDepth 100000 in
set_option maxHeartbeats 1600000 in
theorem refLeaf_any (V : View) (am al ad : Option Addr) (cm cl cd : Nat) (x y : Int) (w : World) (hV : ViewR w am al ad V) :
   Calls Try.prog 81 #[.agg #[.int .u64 V.id, .slice am V.ms.length cm, .slice al V.ls.length cl, .slice ad V.ds.length cd], .agg #[.int .u16 x, .int .u32 y]] w fun e w' => e = .returned (.int .i64 (leafIx V.ls (x, y))) ∧ Below w.heap.size w w' := by
  have hB2 : Below w.heap.size w ((w.alloc (.cells #[.int .u64 V.id, .slice am V.ms.length cm, .slice al V.ls.length cl, .slice ad V.ds.length cd] 33)).alloc (.cells #[.int .u16 x, .int .u32 y] 26)) := ((Below.refl _ _).alloc (Nat.le_refl _) _).alloc (by simp) _
  have hV2 := hV.ext hB2
  have hz : w.heap.size ≤ ((w.alloc (.cells #[.int .u64 V.id, .slice am V.ms.length cm, .slice al V.ls.length cl, .slice ad V.ds.length cd] 33)).alloc (.cells #[.int .u16 x, .int .u32 y] 26)).heap.size := by simp; omega
  have k0 : ((w.alloc (.cells #[.int .u64 V.id, .slice am V.ms.length cm, .slice al V.ls.length cl, .slice ad V.ds.length cd] 33)).alloc (.cells #[.int .u16 x, .int .u32 y] 26)).cell? ⟨w.heap.size + 1, 0, none⟩ = some (.int .u16 x) := by simp
  have k1 : ((w.alloc (.cells #[.int .u64 V.id, .slice am V.ms.length cm, .slice al V.ls.length cl, .slice ad V.ds.length cd] 33)).alloc (.cells #[.int .u16 x, .int .u32 y] 26)).cell? ⟨w.heap.size + 1, 1, none⟩ = some (.int .u32 y) := by simp
  have k2 : ((w.alloc (.cells #[.int .u64 V.id, .slice am V.ms.length cm, .slice al V.ls.length cl, .slice ad V.ds.length cd] 33)).alloc (.cells #[.int .u16 x, .int .u32 y] 26)).cell? ⟨w.heap.size, 2, none⟩ = some (.slice al V.ls.length cl) := by simp
  go_enter Try.func81, Try.ntmps81
  go_wp2
  revert hB2 hV2 hz k0 k1 k2
  generalize (w.alloc (.cells #[.int .u64 V.id, .slice am V.ms.length cm, .slice al V.ls.length cl, .slice ad V.ds.length cd] 33)).alloc (.cells #[.int .u16 x, .int .u32 y] 26) = w2
  intro hB2 hV2 hz k0 k1 k2
  have hll := hV.ll
  go_loopw [4, 5] (fun r i wr => r = .int .i64 0 ∧ ∃ k : Nat, k ≤ V.ls.length ∧ i = .int .i64 k ∧ Hid (leafIx V.ls (x, y) = leafFrom (x, y) (V.ls.drop k) k) ∧ Below w2.heap.size w2 wr) (fun _ i _ => V.ls.length - (intOf i).toNat)
  case atStart => exact ⟨rfl, 0, Nat.zero_le _, rfl, rfl, Below.refl _ _⟩
  case round =>
    obtain ⟨rfl, k, hk, rfl, ha, hb⟩ := hrel
    have f0 := cell_to k0 hb
    have f1 := cell_to k1 hb
    have f2 := cell_to k2 hb
    by_cases hlt : k < V.ls.length
    · obtain ⟨b, off, ai, ci, l, rfl, hx, d1, d2⟩ := hV2.ls.at hb rfl hlt
      have hln : l.length ≤ 70368744177664 := hV.le l (by rw [hx]; exact List.getElem_mem _)
      obtain ⟨A, hA⟩ : ∃ A, atIx l (x, y) = A := ⟨_, rfl⟩
      have hmem := atIx_nonneg (p := (x, y)) (xs := l)
      rw [hA] at hmem
      have hdr := leafFrom_drop hlt (x, y)
      rw [← hx] at hdr
      have HA := hid hA
      have HD := hid hdr
      have g0 := cell_extw f0
      have g1 := cell_extw f1
      have g2 := cell_extw f2
      have g3 := cell_extw d1
      clear hA hx hdr
      by_cases h0 : 0 ≤ A
      · have h0' : decide (0 ≤ A) = true := by simpa using h0
        have HM : Hid ((x, y) ∈ l) := by rw [h0'] at hmem; exact hid (of_decide_eq_true hmem.symm)
        clear hmem
        go_wp2
        clear f0 f1 f2 d1
        refine wp_region_ext (w := wr) (Below.refl _ _) (by kernel_rfl) (by kernel_rfl) ?_
        repeat (go_big_quiet_step (exact at_ext d2 hln HA))
        refine wpQuiet_nil ?_
        rintro w9 ⟨⟨_, hb9⟩, rfl⟩
        go_wp2
        go_ret
        exact ⟨ret_int (by rw [ha.out, HD.out, if_pos HM.out]), hB2.trans ((hb.trans (hb9.mono hb.size)).mono hz)⟩
      · have h0' : decide (0 ≤ A) = false := by simpa using h0
        have HM : Hid (¬ (x, y) ∈ l) := by rw [h0'] at hmem; exact hid (of_decide_eq_false hmem.symm)
        clear hmem
        go_wp2
        clear f0 f1 f2 d1
        refine wp_region_ext (w := wr) (Below.refl _ _) (by kernel_rfl) (by kernel_rfl) ?_
        repeat (go_big_quiet_step (exact at_ext d2 hln HA))
        refine wpQuiet_nil ?_
        rintro w9 ⟨⟨_, hb9⟩, rfl⟩
        go_wp2
        go_roundw
        case rel => exact ⟨rfl, k + 1, by omega, by go_num, (ha.out.trans (by rw [HD.out, if_neg HM.out]) : _), hb.trans (hb9.mono hb.size)⟩
        case measure => simp [intOf]; omega
    · go_wp2
      go_ret
      exact ⟨ret_int (by rw [ha.out, leafFrom_end (by omega)]), hB2.trans (hb.mono hz)⟩
end Go.Proofs.Ytbpfhclcjedkcaa
