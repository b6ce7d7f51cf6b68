import Derived.Test.YtjcgijchmnnfaaaA1
namespace Go.Proofs.Ytjcgijchmnnfaaa
open Go.RowKit
theorem isSome_union {p : Pid} {l : List Pid} : (look p (unionL [] l)).isSome = true ↔ p ∈ l := by
  rw [look_isSome, mem_unionL]; simp [keys]

set_option maxRecDepth 100000 in
set_option maxHeartbeats 3200000 in
theorem refQuorum_any (V : View) (am al ad : Option Addr) (cm cl cd : Nat) (a : Option Addr) (c : Nat) (l : List Pid) (w : World) (hV : ViewR w am al ad V) (hl : l.length ≤ 70368744177664) (hrow : PidRow w a l) :
   Calls Try.prog 25 #[.agg #[.int .u64 V.id, .slice am V.ms.length cm, .slice al V.ls.length cl, .slice ad V.ds.length cd], .slice a l.length c] w fun e w' => e = .returned (.bool (quorumB V l)) ∧ Below w.heap.size w w' := by
  have hBx : Below w.heap.size w (w.alloc (.cells #[.int .u64 V.id, .slice am V.ms.length cm, .slice al V.ls.length cl, .slice ad V.ds.length cd] 26)) := (Below.refl _ _).alloc (Nat.le_refl _) _
  have hV2 := hV.ext hBx
  have hr2 := hrow.ext hBx
  have hz : w.heap.size ≤ (w.alloc (.cells #[.int .u64 V.id, .slice am V.ms.length cm, .slice al V.ls.length cl, .slice ad V.ds.length cd] 26)).heap.size := hBx.size
  have k3 : (w.alloc (.cells #[.int .u64 V.id, .slice am V.ms.length cm, .slice al V.ls.length cl, .slice ad V.ds.length cd] 26)).cell? ⟨w.heap.size, 3, none⟩ = some (.slice ad V.ds.length cd) := by simp
  have hld := hV.ld
  go_enter Try.func25, Try.ntmps25
  go_wp2
  revert hBx hV2 hz hr2 k3
  generalize w.alloc (.cells #[.int .u64 V.id, .slice am V.ms.length cm, .slice al V.ls.length cl, .slice ad V.ds.length cd] 26) = w2
  intro hBx hV2 hr2 hz k3
  go_loopw [5, 6] (fun nv kv wr => ∃ (k n : Nat), k ≤ V.ds.length ∧ kv = .int .i64 k ∧ nv = .int .i64 n ∧ n ≤ k ∧ Hid (quoN V.ds l = n + quoFrom V.ds (unionL [] l) k (V.ds.drop k)) ∧ Below w2.heap.size w2 wr) (fun _ kv _ => V.ds.length - (intOf kv).toNat)
  case atStart => exact ⟨0, 0, Nat.zero_le _, rfl, rfl, Nat.le_refl _, (show quoN V.ds l = 0 + quoFrom V.ds (unionL [] l) 0 V.ds by rw [Nat.zero_add]; rfl), Below.refl _ _⟩
  case round =>
    obtain ⟨k, n, hk, rfl, rfl, hnk, hq, hb⟩ := hrel
    have f3 := cell_to k3 hb
    have hdr := hV2.ds.ext hb
    have hrr := hr2.ext hb
    by_cases hkt : k < V.ds.length
    · obtain ⟨b, off, x, y, rfl, hx, d1, d2⟩ := hV2.ds.at hb rfl hkt
      have hd := quoFrom_drop (S := unionL [] l) hkt hx
      obtain ⟨A, hA⟩ : ∃ A, atIx V.ds (x, y) = A := ⟨_, rfl⟩
      obtain ⟨C, hC⟩ : ∃ C, atIx l (x, y) = C := ⟨_, rfl⟩
      have hmem := atIx_nonneg (p := (x, y)) (xs := l)
      rw [hC] at hmem
      rw [hA] at hd
      have hin : ((look (x, y) (unionL [] l)).isSome = true) ↔ 0 ≤ C := by rw [isSome_union]; exact ⟨fun h => by have := hmem.trans (decide_eq_true h); exact of_decide_eq_true this, fun h => by have := hmem.symm.trans (decide_eq_true h); exact of_decide_eq_true this⟩
      have HA := hid hA
      have HC := hid hC
      have g3 := cell_extw f3
      have g1 := cell_extw d1
      have g2 := cell_extw d2
      clear hA hC hx hmem
      by_cases hAk : A = (k : Int)
      · have hAk' : (A == (k : Int)) = true := by simpa using hAk
        by_cases h0 : 0 ≤ C
        · have h0' : decide (0 ≤ C) = true := by simpa using h0
          have HD : Hid (quoFrom V.ds (unionL [] l) k (V.ds.drop k) = 1 + quoFrom V.ds (unionL [] l) (k + 1) (V.ds.drop (k + 1))) := by rw [Hid, hd, if_pos ⟨hin.2 h0, hAk⟩]
          clear hd hin hAk
          go_wp2
          clear f3 d1 d2
          refine wp_region_ext (w := wr) (Below.refl _ _) (by kernel_rfl) (by kernel_rfl) ?_
          repeat (go_big_quiet_step (first | (with_reducible exact at_ext hdr hld HA) | (with_reducible exact at_ext hrr hl HC)))
          refine wpQuiet_nil ?_
          rintro w9 ⟨⟨_, hb9⟩, rfl⟩
          go_wp2
          go_roundw
          case rel => exact ⟨k + 1, n + 1, by omega, by go_num, by go_num, by omega, hq.out.trans (by rw [HD.out]; omega), hb.trans (hb9.mono hb.size)⟩
          case measure => simp [intOf]; omega
        · have h0' : decide (0 ≤ C) = false := by simpa using h0
          have HD : Hid (quoFrom V.ds (unionL [] l) k (V.ds.drop k) = quoFrom V.ds (unionL [] l) (k + 1) (V.ds.drop (k + 1))) := by rw [Hid, hd, if_neg (fun h => h0 (hin.1 h.1)), Nat.zero_add]
          clear hd hin hAk
          go_wp2
          clear f3 d1 d2
          refine wp_region_ext (w := wr) (Below.refl _ _) (by kernel_rfl) (by kernel_rfl) ?_
          repeat (go_big_quiet_step (first | (with_reducible exact at_ext hdr hld HA) | (with_reducible exact at_ext hrr hl HC)))
          refine wpQuiet_nil ?_
          rintro w9 ⟨⟨_, hb9⟩, rfl⟩
          go_wp2
          go_roundw
          case rel => exact ⟨k + 1, n, by omega, by go_num, rfl, by omega, hq.out.trans (by rw [HD.out]), hb.trans (hb9.mono hb.size)⟩
          case measure => simp [intOf]; omega
      · have hAk' : (A == (k : Int)) = false := by simpa using hAk
        have HD : Hid (quoFrom V.ds (unionL [] l) k (V.ds.drop k) = quoFrom V.ds (unionL [] l) (k + 1) (V.ds.drop (k + 1))) := by rw [Hid, hd, if_neg (fun h => hAk h.2), Nat.zero_add]
        clear hd hin hAk
        go_wp2
        clear f3 d1 d2
        refine wp_region_ext (w := wr) (Below.refl _ _) (by kernel_rfl) (by kernel_rfl) ?_
        repeat (go_big_quiet_step (first | (with_reducible exact at_ext hdr hld HA) | (with_reducible exact at_ext hrr hl HC)))
        refine wpQuiet_nil ?_
        rintro w9 ⟨⟨_, hb9⟩, rfl⟩
        go_wp2
        go_roundw
        case rel => exact ⟨k + 1, n, by omega, by go_num, rfl, by omega, hq.out.trans (by rw [HD.out]), hb.trans (hb9.mono hb.size)⟩
        case measure => simp [intOf]; omega
    · go_wp2
      go_ret
      refine ⟨ret_bool ?_, hBx.trans (hb.mono hz)⟩
      unfold quorumB
      rw [hq.out, List.drop_eq_nil_of_le (by omega)]
      simp only [quoFrom]
      exact decide_eq_decide.mpr (by omega)
end Go.Proofs.Ytjcgijchmnnfaaa
