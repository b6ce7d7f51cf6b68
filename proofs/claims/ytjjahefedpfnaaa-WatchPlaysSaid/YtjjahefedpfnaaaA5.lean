import Derived.Test.YtjjahefedpfnaaaA4
namespace Go.Proofs.Ytjjahefedpfnaaa
open Go.RowKit
set_option maxRecDepth 100000 in
set_option maxHeartbeats 1600000 in
theorem mask_any (V : View) (am al ad : Option Addr) (cm cl cd : Nat) (a : Option Addr) (c : Nat) (xs : List Pid) (w : World) (hV : ViewR w am al ad V) (hn : xs.length ≤ 70368744177664) (hrow : PidRow w a xs) :
   Calls Try.prog 90 #[.agg #[.int .u64 V.id, .slice am V.ms.length cm, .slice al V.ls.length cl, .slice ad V.ds.length cd], .slice a xs.length c] w fun e w' => e = .returned (.agg #[.int .u64 (maskL V.ms (0, 0) xs).1, .int .u64 (maskL V.ms (0, 0) xs).2]) ∧ Below w.heap.size w w' := by
  have hB2 : Below w.heap.size w ((w.alloc (.cells #[.int .u64 V.id, .slice am V.ms.length cm, .slice al V.ls.length cl, .slice ad V.ds.length cd] 68)).alloc (.cells #[.int .u64 0, .int .u64 0] 83)) := ((Below.refl _ _).alloc (Nat.le_refl _) _).alloc (by simp) _
  have hV2 := hV.ext hB2
  have hr2 := hrow.ext hB2
  have hlm := hV.lm
  generalize hM : maskL V.ms (0, 0) xs = M
  obtain ⟨A, B⟩ := M
  have HM := hid hM
  clear hM
  go_enter Try.func90, Try.ntmps90
  go_wp2_with (go_at_call 101; refine (among_any _ _ _ _ _ _ _ hlm hn hV2.ms hr2).mono ?_; rintro e w3 ⟨rfl, hb3⟩; rw [HM.out]; obtain ⟨hc3, hf3⟩ := bcell hb3)
  have m0 : w3.cell? ⟨w.heap.size + 1, 0, none⟩ = some (.int .u64 0) := by rw [hc3 _ _ (by simp)]; simp
  have m1 : w3.cell? ⟨w.heap.size + 1, 1, none⟩ = some (.int .u64 0) := by rw [hc3 _ _ (by simp)]; simp
  obtain ⟨t0, t1⟩ := two_cell (x := .int .u64 A) (y := .int .u64 B) m0 m1
  refine bodyPost_ret (v := .agg #[.int .u64 A, .int .u64 B]) (by simp [results, Try.results90, go_sem, t0, t1]) rfl ⟨rfl, ((hB2.trans (hb3.mono (by simp; omega))).setCell (by simp) _).setCell (by simp) _⟩
end Go.Proofs.Ytjjahefedpfnaaa
