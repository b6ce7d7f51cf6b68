import Derived.Test.YtjcgijchmnnfaaaA9
import Derived.Test.YtjcgijchmnnfaaaS2
namespace Go.Proofs.Ytjcgijchmnnfaaa
open Go.RowKit
section
variable {V : View} {am al ad : Option Addr} {cm cl cd : Nat} {x y : Int} {w0 : World} {U : ExtW w0} {a : Option Addr} {c : Nat} {l : List Pid}
theorem rank_ext (hV : ViewR w0 am al ad V) {A : Int} (h : Hid (atIx V.ms (x, y) = A)) :
   Calls Try.prog 19 #[.agg #[.int .u64 V.id, .slice am V.ms.length cm, .slice al V.ls.length cl, .slice ad V.ds.length cd], .agg #[.int .u16 x, .int .u32 y]] U.W fun e w' => e = .returned (.int .i64 A) ∧ ∃ U' : ExtW w0, w' = U'.W :=
  quiet_of (rank_any V am al ad cm cl cd x y U.W (hV.ext U.h)) (by rw [h.out])
theorem leaf_ext (hV : ViewR w0 am al ad V) {A : Int} (h : Hid (leafIx V.ls (x, y) = A)) :
   Calls Try.prog 20 #[.agg #[.int .u64 V.id, .slice am V.ms.length cm, .slice al V.ls.length cl, .slice ad V.ds.length cd], .agg #[.int .u16 x, .int .u32 y]] U.W fun e w' => e = .returned (.int .i64 A) ∧ ∃ U' : ExtW w0, w' = U'.W :=
  quiet_of (leaf_any V am al ad cm cl cd x y U.W (hV.ext U.h)) (by rw [h.out])
theorem refLeaf_ext (hV : ViewR w0 am al ad V) {A : Int} (h : Hid (leafIx V.ls (x, y) = A)) :
   Calls Try.prog 21 #[.agg #[.int .u64 V.id, .slice am V.ms.length cm, .slice al V.ls.length cl, .slice ad V.ds.length cd], .agg #[.int .u16 x, .int .u32 y]] U.W fun e w' => e = .returned (.int .i64 A) ∧ ∃ U' : ExtW w0, w' = U'.W :=
  quiet_of (refLeaf_any V am al ad cm cl cd x y U.W (hV.ext U.h)) (by rw [h.out])
theorem hasView_ext (hV : ViewR w0 am al ad V) {A : Int} (h : Hid (atIx V.ms (x, y) = A)) :
   Calls Try.prog 22 #[.agg #[.int .u64 V.id, .slice am V.ms.length cm, .slice al V.ls.length cl, .slice ad V.ds.length cd], .agg #[.int .u16 x, .int .u32 y]] U.W fun e w' => e = .returned (.bool (decide (0 ≤ A))) ∧ ∃ U' : ExtW w0, w' = U'.W :=
  quiet_of (hasView_any V am al ad cm cl cd x y U.W (hV.ext U.h)) (by rw [← h.out, atIx_nonneg])
theorem leadsAt_ext (hV : ViewR w0 am al ad V) {A : Int} (h : Hid (atIx V.ds (x, y) = A)) :
   Calls Try.prog 18 #[.agg #[.int .u64 V.id, .slice am V.ms.length cm, .slice al V.ls.length cl, .slice ad V.ds.length cd], .agg #[.int .u16 x, .int .u32 y]] U.W fun e w' => e = .returned (.bool (decide (0 ≤ A))) ∧ ∃ U' : ExtW w0, w' = U'.W :=
  quiet_of (leads_any V am al ad cm cl cd x y U.W (hV.ext U.h)) (by rw [← h.out, atIx_nonneg])
theorem mask_ext (hV : ViewR w0 am al ad V) (hl : l.length ≤ 70368744177664) (hrow : PidRow w0 a l) {A B : Int} (h : Hid (((maskL V.ms (0, 0) l).1 : Int) = A ∧ ((maskL V.ms (0, 0) l).2 : Int) = B)) :
   Calls Try.prog 23 #[.agg #[.int .u64 V.id, .slice am V.ms.length cm, .slice al V.ls.length cl, .slice ad V.ds.length cd], .slice a l.length c] U.W fun e w' => e = .returned (.agg #[.int .u64 A, .int .u64 B]) ∧ ∃ U' : ExtW w0, w' = U'.W :=
  quiet_of (mask_any V am al ad cm cl cd a c l U.W (hV.ext U.h) hl (hrow.ext U.h)) (by rw [h.out.1, h.out.2])
theorem refMask_ext (hV : ViewR w0 am al ad V) (hl : l.length ≤ 70368744177664) (hrow : PidRow w0 a l) {A B : Int} (h : Hid (((maskL V.ms (0, 0) l).1 : Int) = A ∧ ((maskL V.ms (0, 0) l).2 : Int) = B)) :
   Calls Try.prog 24 #[.agg #[.int .u64 V.id, .slice am V.ms.length cm, .slice al V.ls.length cl, .slice ad V.ds.length cd], .slice a l.length c] U.W fun e w' => e = .returned (.agg #[.int .u64 A, .int .u64 B]) ∧ ∃ U' : ExtW w0, w' = U'.W :=
  quiet_of (refMask_any V am al ad cm cl cd a c l U.W (hV.ext U.h) hl (hrow.ext U.h)) (by rw [h.out.1, h.out.2])
theorem quorum_ext (hV : ViewR w0 am al ad V) (hl : l.length ≤ 70368744177664) (hrow : PidRow w0 a l) {b : Bool} (h : Hid (quorumB V l = b)) :
   Calls Try.prog 16 #[.agg #[.int .u64 V.id, .slice am V.ms.length cm, .slice al V.ls.length cl, .slice ad V.ds.length cd], .slice a l.length c] U.W fun e w' => e = .returned (.bool b) ∧ ∃ U' : ExtW w0, w' = U'.W :=
  quiet_of (quorum_any V am al ad cm cl cd a c l U.W (hV.ext U.h) hl (hrow.ext U.h)) (by rw [h.out])
theorem refQuorum_ext (hV : ViewR w0 am al ad V) (hl : l.length ≤ 70368744177664) (hrow : PidRow w0 a l) {b : Bool} (h : Hid (quorumB V l = b)) :
   Calls Try.prog 25 #[.agg #[.int .u64 V.id, .slice am V.ms.length cm, .slice al V.ls.length cl, .slice ad V.ds.length cd], .slice a l.length c] U.W fun e w' => e = .returned (.bool b) ∧ ∃ U' : ExtW w0, w' = U'.W :=
  quiet_of (refQuorum_any V am al ad cm cl cd a c l U.W (hV.ext U.h) hl (hrow.ext U.h)) (by rw [h.out])
theorem awakeAsks_ext : Calls Try.prog 13 #[] U.W fun e w' => e = .returned (.bool true) ∧ ∃ U' : ExtW w0, w' = U'.W :=
  quiet_of (awake_any U.W) rfl
end

set_option maxRecDepth 100000 in
set_option maxHeartbeats 6400000 in
theorem viewAsks_any (V : View) (am al ad : Option Addr) (cm cl cd : Nat) (x y : Int) (a : Option Addr) (c : Nat) (l : List Pid) (w : World) (hV : ViewR w am al ad V) (ha : PidRow w a l) (hl : l.length ≤ 70368744177664) :
   Calls Try.prog 5 #[.agg #[.int .u64 V.id, .slice am V.ms.length cm, .slice al V.ls.length cl, .slice ad V.ds.length cd], .agg #[.int .u16 x, .int .u32 y], .slice a l.length c] w fun e w' => e = .returned (.bool true) ∧ Below w.heap.size w w' := by
  have hBx : Below w.heap.size w ((w.alloc (.cells #[.int .u64 V.id, .slice am V.ms.length cm, .slice al V.ls.length cl, .slice ad V.ds.length cd] 26)).alloc (.cells #[.int .u16 x, .int .u32 y] 36)) := ((Below.refl _ _).alloc (Nat.le_refl _) _).alloc (by simp) _
  have hbx : ViewBox ((w.alloc (.cells #[.int .u64 V.id, .slice am V.ms.length cm, .slice al V.ls.length cl, .slice ad V.ds.length cd] 26)).alloc (.cells #[.int .u16 x, .int .u32 y] 36)) w.heap.size V am al ad cm cl cd := (ViewBox.made w).ext ((Below.refl _ _).alloc (Nat.le_refl _) _) (by simp)
  have hp0 : ((w.alloc (.cells #[.int .u64 V.id, .slice am V.ms.length cm, .slice al V.ls.length cl, .slice ad V.ds.length cd] 26)).alloc (.cells #[.int .u16 x, .int .u32 y] 36)).cell? ⟨w.heap.size + 1, 0, none⟩ = some (.int .u16 x) := by simp
  have hp1 : ((w.alloc (.cells #[.int .u64 V.id, .slice am V.ms.length cm, .slice al V.ls.length cl, .slice ad V.ds.length cd] 26)).alloc (.cells #[.int .u16 x, .int .u32 y] 36)).cell? ⟨w.heap.size + 1, 1, none⟩ = some (.int .u32 y) := by simp
  have hz : w.heap.size + 1 < ((w.alloc (.cells #[.int .u64 V.id, .slice am V.ms.length cm, .slice al V.ls.length cl, .slice ad V.ds.length cd] 26)).alloc (.cells #[.int .u16 x, .int .u32 y] 36)).heap.size := by simp
  cases hg : greatB V
  · have HG := hid hg
    clear hg
    by_cases k1 : 40 < l.length
    · have k1' : decide (40 < (l.length : Int)) = true := by simp; omega
      go_enter Try.func5, Try.ntmps5
      go_wp2_with (first
        | (go_at_call 12; refine (great_is HG (hV.ext hBx)).mono ?_; rintro e w2 ⟨rfl, hb2⟩)
        | (go_at_call 13; refine (awake_any _).mono ?_; rintro e w3 ⟨rfl, hb3⟩))
      go_ret
      exact ⟨rfl, (hBx.trans (hb2.mono hBx.size)).trans (hb3.mono (by have := hb2.size; have := hBx.size; omega))⟩
    · have k1' : decide (40 < (l.length : Int)) = false := by simp; omega
      go_enter Try.func5, Try.ntmps5
      go_wp2_with (first
        | (go_at_call 12; refine (great_is HG (hV.ext hBx)).mono ?_; rintro e w2 ⟨rfl, hb2⟩))
      obtain ⟨e0, e1, e2, e3⟩ := hbx.ext hb2 (by omega)
      have q0 := (hb2.cell (by simp)).trans hp0
      have q1 := (hb2.cell (by simp)).trans hp1
      have hV2 := (hV.ext hBx).ext hb2
      have ha2 := (ha.ext hBx).ext hb2
      have hB2 : Below w.heap.size w w2 := hBx.trans (hb2.mono hBx.size)
      clear hb2 hBx hbx hp0 hp1 hz hV ha HG
      have z0 := cell_extw e0
      have z1 := cell_extw e1
      have z2 := cell_extw e2
      have z3 := cell_extw e3
      have y0 := cell_extw q0
      have y1 := cell_extw q1
      clear e0 e1 e2 e3 q0 q1
      obtain ⟨A, hA⟩ : ∃ A, atIx V.ms (x, y) = A := ⟨_, rfl⟩
      obtain ⟨D, hD⟩ : ∃ A, atIx V.ds (x, y) = A := ⟨_, rfl⟩
      obtain ⟨F, hF⟩ : ∃ A, leafIx V.ls (x, y) = A := ⟨_, rfl⟩
      obtain ⟨M, N, hMN⟩ : ∃ M N : Int, ((maskL V.ms (0, 0) l).1 : Int) = M ∧ ((maskL V.ms (0, 0) l).2 : Int) = N := ⟨_, _, rfl, rfl⟩
      obtain ⟨q, hq⟩ : ∃ b, quorumB V l = b := ⟨_, rfl⟩
      have HA := hid hA
      have HD := hid hD
      have HF := hid hF
      have HMN := hid hMN
      have HQ := hid hq
      clear hA hD hF hMN hq
      have hem : ∀ W, (binOp .eql 41 (.agg #[.int .u64 M, .int .u64 N]) (.agg #[.int .u64 M, .int .u64 N])).run Try.prog W = .ok (.bool true) W := fun W => by rw [eql_mask]; simp
      have hlm := hV2.lm
      have hld := hV2.ld
      refine wp_region_ext (w := w2) (Below.refl _ _) (by kernel_rfl) (by kernel_rfl) ?_
      repeat (go_big_quiet_step (first | (with_reducible exact rank_ext hV2 HA) | (with_reducible exact at_ext hV2.ms hlm HA) | (with_reducible exact at_ext hV2.ds hld HD) | (with_reducible exact leaf_ext hV2 HF) | (with_reducible exact refLeaf_ext hV2 HF) | (with_reducible exact hasView_ext hV2 HA) | (with_reducible exact leadsAt_ext hV2 HD) | (with_reducible exact mask_ext hV2 hl ha2 HMN) | (with_reducible exact refMask_ext hV2 hl ha2 HMN) | (with_reducible exact quorum_ext hV2 hl ha2 HQ) | (with_reducible exact refQuorum_ext hV2 hl ha2 HQ) | (with_reducible exact awakeAsks_ext)))
      refine wpQuiet_nil ?_
      rintro w9 ⟨⟨_, hb9⟩, rfl⟩
      go_wp2
      go_ret
      exact ⟨rfl, hB2.trans (hb9.mono hB2.size)⟩
  · have HG := hid hg
    clear hg
    go_enter Try.func5, Try.ntmps5
    go_wp2_with (first
      | (go_at_call 12; refine (great_is HG (hV.ext hBx)).mono ?_; rintro e w2 ⟨rfl, hb2⟩)
      | (go_at_call 13; refine (awake_any _).mono ?_; rintro e w3 ⟨rfl, hb3⟩))
    go_ret
    exact ⟨rfl, (hBx.trans (hb2.mono hBx.size)).trans (hb3.mono (by have := hb2.size; have := hBx.size; omega))⟩
theorem viewAsks_law (V : View) (am al ad : Option Addr) (cm cl cd : Nat) (x y : Int) (a : Option Addr) (c : Nat) (l : List Pid) (w : World) (hV : ViewR w am al ad V) (_ : True) (ha : PidRow w a l) (_ : True) (hl : l.length ≤ 17592186044416) :
   Calls Try.prog 5 #[.agg #[.int .u64 V.id, .slice am V.ms.length cm, .slice al V.ls.length cl, .slice ad V.ds.length cd], .agg #[.int .u16 x, .int .u32 y], .slice a l.length c] w fun e w' => e = .returned (.bool true) ∧ Below w.heap.size w w' :=
  viewAsks_any V am al ad cm cl cd x y a c l w hV ha (by omega)
end Go.Proofs.Ytjcgijchmnnfaaa
