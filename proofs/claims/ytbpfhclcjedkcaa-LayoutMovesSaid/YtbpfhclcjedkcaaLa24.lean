/- Parts of the proof: X106 XL XO X107. -/
import Derived.Deep.Slices
import Derived.Lib.SmallJoins
import Derived.SizedLaws
import Derived.ProofKit
import Derived.OpenShut
import Derived.Test.YtbpfhclcjedkcaaLa11
import Derived.Test.YtbpfhclcjedkcaaLa13
import Derived.Test.YtbpfhclcjedkcaaX105
namespace Go.Proofs.Ytbpfhclcjedkcaa
open Go.RowKit
/-! ### the reference's Moves -/
theorem refLeaf_ext {V : View} {am al ad : Option Addr} {cm cl cd : Nat} {x y : Int} {w0 : World} {U : ExtW w0} {A : Int} (h : Hid (leafIx V.ls (x, y) = A)) (hV : ViewR w0 am al ad V) :
    Calls Try.prog 81 #[.agg #[.int .u64 V.id, .slice am V.ms.length cm, .slice al V.ls.length cl, .slice ad V.ds.length cd], .agg #[.int .u16 x, .int .u32 y]] U.W fun e w' => e = .returned (.int .i64 A) ∧ ∃ U' : ExtW w0, w' = U'.W := by
  refine (refLeaf_any V am al ad cm cl cd x y U.W (hV.ext U.h)).mono ?_
  rintro e w' ⟨rfl, hb⟩
  exact ⟨by rw [h.out], ⟨_, U.h.trans (hb.mono U.h.size)⟩, rfl⟩
set_option maxRecDepth 100000 in
set_option maxHeartbeats 12800000 in
theorem refMoves_any {V W : View} {am al ad bm bl bd : Option Addr} {cm cl cd em el ed : Nat} {w : World} (hV : ViewR w am al ad V) (hW : ViewR w bm bl bd W) (hlv : V.ms.length ≤ 40) (hlw : W.ms.length ≤ 40) :
    Calls Try.prog 47 #[.agg #[.int .u64 V.id, .slice am V.ms.length cm, .slice al V.ls.length cl, .slice ad V.ds.length cd], .agg #[.int .u64 W.id, .slice bm W.ms.length em, .slice bl W.ls.length el, .slice bd W.ds.length ed]] w fun e w' => ∃ v, e = .returned v ∧ OwnM w' w.heap.size v (movesL V W) ∧ Below w.heap.size w w' := by
  obtain ⟨W2, hW2⟩ : ∃ W2, ((w.alloc (.cells #[.int .u64 V.id, .slice am V.ms.length cm, .slice al V.ls.length cl, .slice ad V.ds.length cd] 33)).alloc (.cells #[.int .u64 W.id, .slice bm W.ms.length em, .slice bl W.ls.length el, .slice bd W.ds.length ed] 33)) = W2 := ⟨_, rfl⟩
  have hB2 : Below w.heap.size w W2 := by rw [← hW2]; exact ((Below.refl _ _).alloc (Nat.le_refl _) _).alloc (by simp) _
  have xV : ViewBox W2 w.heap.size V am al ad cm cl cd := by rw [← hW2]; exact (ViewBox.made (V := V) w).ext ((Below.refl _ _).alloc (Nat.le_refl _) _) (by simp)
  have xW : ViewBox W2 (w.heap.size + 1) W bm bl bd em el ed := by
    rw [← hW2]
    have := ViewBox.made (V := W) (am := bm) (al := bl) (ad := bd) (cm := em) (cl := el) (cd := ed) (w.alloc (.cells #[.int .u64 V.id, .slice am V.ms.length cm, .slice al V.ls.length cl, .slice ad V.ds.length cd] 33))
    simpa using this
  have hV2 := hV.ext hB2
  have hW2' := hW.ext hB2
  have HS : Hid (∀ X, Below W2.heap.size W2 X → X.cell? ⟨w.heap.size, 1, none⟩ = some (.slice am V.ms.length cm) ∧ X.cell? ⟨w.heap.size + 1, 1, none⟩ = some (.slice bm W.ms.length em)) := hid fun X h => ⟨cell_toB xV.c1 h, cell_toB xW.c1 h⟩
  have hal := moves_len (V := V) (W := W) hlv hlw
  obtain ⟨ms, hms⟩ : ∃ ms, allMs V W = ms := ⟨_, rfl⟩
  have hmv : movesL V W = mvFrom V W ms := by unfold movesL; rw [hms]
  rw [hms] at hal
  obtain ⟨nA, hnA⟩ : ∃ n, ms.length = n := ⟨_, rfl⟩
  obtain ⟨n3, hn3⟩ : ∃ n, (minusP W.ms V.ms).length = n := ⟨_, rfl⟩
  have hn3l : n3 ≤ 40 := by rw [← hn3]; unfold minusP; exact Nat.le_trans (List.length_filter_le _ _) hlw
  have HALL : Hid (V.ms ++ minusP W.ms V.ms = ms) := hid hms
  have HMOV := hid hmv
  have HNA := hid hnA
  have HNAL : Hid (nA ≤ 80) := hid (by omega)
  have HN3 := hid hn3
  have HN3L := hid hn3l
  have HLV := hid hlv
  have HLW := hid hlw
  have HMV := hid hV2.ms
  have HMW := hid hW2'.ms
  have HV2 := hid hV2
  have HW2 := hid hW2'
  have HXV := hid xV
  have HXW := hid xW
  have HB2 := hid hB2
  have HZ2 : Hid (W2.heap.size = w.heap.size + 1 + 1) := hid (by rw [← hW2]; simp)
  clear hV hW hlv hlw hB2 xV xW hV2 hW2' hal hms hmv hnA hn3 hn3l
  go_enter Try.func47, Try.ntmps47
  go_wp2
  clear hW2
  refine wp_region_held_drew (S := fun X => X.cell? ⟨w.heap.size, 1, none⟩ = some (.slice am V.ms.length cm) ∧ X.cell? ⟨w.heap.size + 1, 1, none⟩ = some (.slice bm W.ms.length em)) (by kernel_rfl) (by exact HS.out _ (Below.refl _ _).drew) (fun hHeld => ?_)
  refine wpAnyH_take (i := 1) (oi := _) (v := .pointer (some ⟨w.heap.size, 1, none⟩)) rfl (by kernel_rfl) (by kernel_rfl) (by kernel_rfl) (fun _ _ _ h => h) (Or.inl ⟨by rfl, ?_⟩) (by assumption) ?_
  · intro W hSw
    try dsimp only at hSw
    go_simp
  try simp only [Act.put, List.getElem_toArray, List.getElem_cons_succ, List.getElem_cons_zero, List.setIfInBounds_toArray, List.set_cons_zero, List.set_cons_succ]
  refine wpAnyH_take (i := 2) (oi := _) (v := .slice am V.ms.length cm) rfl (by kernel_rfl) (by kernel_rfl) (by kernel_rfl) (fun _ _ _ h => h) (Or.inl ⟨by rfl, ?_⟩) (by assumption) ?_
  · intro W hSw
    try dsimp only at hSw
    obtain ⟨hSw1, hSw2⟩ := hSw
    go_simp
  try simp only [Act.put, List.getElem_toArray, List.getElem_cons_succ, List.getElem_cons_zero, List.setIfInBounds_toArray, List.set_cons_zero, List.set_cons_succ]
  refine wpAnyH_take (i := 4) (oi := _) (v := .pointer (some ⟨w.heap.size + 1, 1, none⟩)) rfl (by kernel_rfl) (by kernel_rfl) (by kernel_rfl) (fun _ _ _ h => h) (Or.inl ⟨by rfl, ?_⟩) (by assumption) ?_
  · intro W hSw
    try dsimp only at hSw
    go_simp
  try simp only [Act.put, List.getElem_toArray, List.getElem_cons_succ, List.getElem_cons_zero, List.setIfInBounds_toArray, List.set_cons_zero, List.set_cons_succ]
  refine wpAnyH_take (i := 5) (oi := _) (v := .slice bm W.ms.length em) rfl (by kernel_rfl) (by kernel_rfl) (by kernel_rfl) (fun _ _ _ h => h) (Or.inl ⟨by rfl, ?_⟩) (by assumption) ?_
  · intro W hSw
    try dsimp only at hSw
    obtain ⟨hSw1, hSw2⟩ := hSw
    go_simp
  try simp only [Act.put, List.getElem_toArray, List.getElem_cons_succ, List.getElem_cons_zero, List.setIfInBounds_toArray, List.set_cons_zero, List.set_cons_succ]
  refine wpAnyH_take (i := 6) (oi := _) (v := .pointer (some ⟨w.heap.size, 1, none⟩)) rfl (by kernel_rfl) (by kernel_rfl) (by kernel_rfl) (fun _ _ _ h => h) (Or.inl ⟨by rfl, ?_⟩) (by assumption) ?_
  · intro W hSw
    try dsimp only at hSw
    go_simp
  try simp only [Act.put, List.getElem_toArray, List.getElem_cons_succ, List.getElem_cons_zero, List.setIfInBounds_toArray, List.set_cons_zero, List.set_cons_succ]
  refine wpAnyH_take (i := 7) (oi := _) (v := .slice am V.ms.length cm) rfl (by kernel_rfl) (by kernel_rfl) (by kernel_rfl) (fun _ _ _ h => h) (Or.inl ⟨by rfl, ?_⟩) (by assumption) ?_
  · intro W hSw
    try dsimp only at hSw
    obtain ⟨hSw1, hSw2⟩ := hSw
    go_simp
  try simp only [Act.put, List.getElem_toArray, List.getElem_cons_succ, List.getElem_cons_zero, List.setIfInBounds_toArray, List.set_cons_zero, List.set_cons_succ]
  refine wpAnyH_ready (rs := [0]) (by kernel_rfl) (by simp) ?_
  refine AllReadyH.cons (o := _) rfl (fun K hK => ?_) AllReadyH.nil
  go_simp
  have HB3 : Hid (Below W2.heap.size W2 (W2.drew.alloc (.cells #[] 26))) := hid ((Below.refl _ _).drew.alloc (Nat.le_refl _) _)
  have HO3 : Hid (OwnP (W2.drew.alloc (.cells #[] 26)) W2.heap.size (.slice (some ⟨W2.heap.size, 0, none⟩) 0 0) []) := hid (World.ownsRow_made (w := W2.drew) #[] 0 (Nat.le_refl _) (by unfold maxLen; omega) (by simp))
  refine hK.out _ _ (HS.out _ HB3.out) (fun hHeld => ?_)
  clear hK K
  try simp only [Act.put, List.getElem_toArray, List.getElem_cons_succ, List.getElem_cons_zero, List.setIfInBounds_toArray, List.set_cons_zero, List.set_cons_succ]
  refine wpAnyH_ready (rs := [3]) (by kernel_rfl) (by simp) ?_
  refine AllReadyH.cons (o := _) rfl (fun K hK => ?_) AllReadyH.nil
  refine step_appendPat (by rfl) HO3.out (HMV.out.ext HB3.out) (hid rfl) (by have := HLV.out; simp; omega) HB3.out.size rfl rfl rfl ?_
  intro v4 w4 hown4 hg4 hat4
  have HB4 := hid (HB3.out.grown hg4 HB3.out.size (fun g hg => (HO3.out.blk hg).1))
  have HO4 := hid hown4
  clear hown4 hg4 hat4
  refine hK.out _ _ (HS.out _ HB4.out) (fun hHeld => ?_)
  clear hK K
  try simp only [Act.put, List.getElem_toArray, List.getElem_cons_succ, List.getElem_cons_zero, List.setIfInBounds_toArray, List.set_cons_zero, List.set_cons_succ]
  have CM := hid (refMinus_any bm em W.ms am cm V.ms w4 (by have := HLW.out; omega) (by have := HLV.out; omega) (HMW.out.ext HB4.out) (HMV.out.ext HB4.out))
  refine wpAnyH_ready (rs := [8]) (by kernel_rfl) (by simp) ?_
  refine AllReadyH.cons (o := _) rfl (fun K hK => ?_) AllReadyH.nil
  go_simp
  (with_reducible refine CM.out.mono ?_)
  rintro e w5 ⟨v5, rfl, hown5, hb5⟩
  obtain ⟨a5, c5, e5, hr5, -⟩ := hown5.row
  rw [HN3.out] at e5
  subst e5
  have HB5 := hid (HB4.out.trans (hb5.mono HB4.out.size))
  have HR5 := hid hr5
  have HO5 := hid (HO4.out.ext hb5)
  clear hown5 hb5 hr5 CM
  refine hK.out _ _ (HS.out _ HB5.out) (fun hHeld => ?_)
  clear hK K
  try simp only [Act.put, List.getElem_toArray, List.getElem_cons_succ, List.getElem_cons_zero, List.setIfInBounds_toArray, List.set_cons_zero, List.set_cons_succ]
  refine wpAnyH_ready (rs := [9]) (by kernel_rfl) (by simp) ?_
  refine AllReadyH.cons (o := _) rfl (fun K hK => ?_) AllReadyH.nil
  refine step_appendPat (by rfl) HO5.out HR5.out HN3 (by have := HLV.out; have := HN3L.out; simp; omega) HB5.out.size rfl rfl rfl ?_
  intro v6 w6 hown6 hg6 hat6
  have HB6 := hid (HB5.out.grown hg6 HB5.out.size (fun g hg => (HO5.out.blk hg).1))
  rw [List.nil_append, HALL.out] at hown6
  obtain ⟨a6, c6, e6, hr6, -⟩ := hown6.row
  rw [HNA.out] at e6
  subst e6
  have HR6 := hid hr6
  clear hown6 hg6 hat6 hr6
  refine hK.out _ _ (HS.out _ HB6.out) (fun hHeld => ?_)
  clear hK K
  try simp only [Act.put, List.getElem_toArray, List.getElem_cons_succ, List.getElem_cons_zero, List.setIfInBounds_toArray, List.set_cons_zero, List.set_cons_succ]
  refine wpAnyH_ready (rs := [10]) (by kernel_rfl) (by simp) ?_
  refine AllReadyH.cons (o := _) rfl (fun K hK => ?_) AllReadyH.nil
  go_simp
  refine hK.out _ _ (HS.out _ HB6.out) (fun hHeld => ?_)
  clear hK K
  try simp only [Act.put, List.getElem_toArray, List.getElem_cons_succ, List.getElem_cons_zero, List.setIfInBounds_toArray, List.set_cons_zero, List.set_cons_succ]
  refine wpAnyH_done (by kernel_rfl) ?_ _
  clear HS
  have HXV5 := hid (HXV.out.ext HB6.out HXV.out.lt)
  have HXW5 := hid (HXW.out.ext HB6.out HXW.out.lt)
  have HV5 := hid (HV2.out.ext HB6.out)
  have HW5 := hid (HW2.out.ext HB6.out)
  clear HXV HXW HV2 HW2
  go_wp2
  go_loopw [5, 7] (fun v i wr => ∃ (k : Nat) (got : List Mv), k ≤ nA ∧ i = .int .i64 k ∧ got.length ≤ k ∧ Hid (movesL V W = got ++ mvFrom V W (ms.drop k)) ∧ OwnM wr w6.heap.size v got ∧ Below w6.heap.size w6 wr) (fun _ i _ => nA - (intOf i).toNat)
  case atStart => exact ⟨0, [], Nat.zero_le _, rfl, Nat.le_refl _, hid (by rw [HMOV.out]; rfl), OwnM.nil _ _, Below.refl _ _⟩
  case round =>
    obtain ⟨k, got, hk, rfl, hgl, hM, hown, hb⟩ := hrel
    have hnl := HNAL.out
    by_cases hlt : k < nA
    · have hkl : k < ms.length := by rw [HNA.out]; exact hlt
      have hr := HR6.out
      obtain ⟨b', off, x, y, he, hx, d1, d2⟩ := hr.at hb rfl hkl
      subst he
      have hd := mvFrom_drop (V := V) (W := W) hkl hx
      obtain ⟨A1, hA1⟩ : ∃ A, leafIx V.ls (x, y) = A := ⟨_, rfl⟩
      obtain ⟨A2, hA2⟩ : ∃ A, leafIx W.ls (x, y) = A := ⟨_, rfl⟩
      have hmo : mvOf V W (x, y) = ((x, y), A1, A2) := by unfold mvOf; rw [hA1, hA2]
      rw [hmo] at hd
      obtain ⟨v0, v1, v2, v3⟩ := HXV5.out.ext hb HXV5.out.lt
      obtain ⟨u0, u1, u2, u3⟩ := HXW5.out.ext hb HXW5.out.lt
      have m0 := cell_extw v0
      have m1 := cell_extw v1
      have m2 := cell_extw v2
      have m3 := cell_extw v3
      have n0 := cell_extw u0
      have n1 := cell_extw u1
      have n2 := cell_extw u2
      have n3' := cell_extw u3
      have p0 := cell_extw d1
      have p1 := cell_extw d2
      have LV := hid (HV5.out.ext hb)
      have LW := hid (HW5.out.ext hb)
      have HA1 := hid hA1
      have HA2 := hid hA2
      have HOWN := hid hown
      have HB := hid hb
      have HGL := hid hgl
      clear v0 v1 v2 v3 u0 u1 u2 u3 d1 d2 hr hx hA1 hA2 hmo
      cases hq : A1 != A2
      · have HD : Hid (mvFrom V W (ms.drop k) = [] ++ mvFrom V W (ms.drop (k + 1))) := hid (by rw [hd]; unfold mvKeep; simp only [hq]; rfl)
        clear hd hown hb hgl hkl
        go_wp2
        refine wp_region_ext (Below.refl _ _) (by kernel_rfl) (by kernel_rfl) ?_
        repeat (go_big_quiet_step (first | (with_reducible exact refLeaf_ext HA1 LV.out) | (with_reducible exact refLeaf_ext HA2 LW.out)))
        refine wpQuiet_nil ?_
        rintro w9 ⟨⟨_, hb9⟩, rfl⟩
        have HW9 := hid (HB.out.trans (hb9.mono HB.out.size))
        have HO9 := hid (HOWN.out.ext hb9)
        clear hb9 m0 m1 m2 m3 n0 n1 n2 n3' p0 p1
        go_wp2
        go_roundw
        case rel => exact ⟨k + 1, got, by omega, by go_num, by have := HGL.out; omega, hid (hM.out.trans (by rw [HD.out]; simp)), HO9.out, HW9.out⟩
        case measure => simp [intOf]; omega
      · have HD : Hid (mvFrom V W (ms.drop k) = [((x, y), A1, A2)] ++ mvFrom V W (ms.drop (k + 1))) := hid (by rw [hd]; unfold mvKeep; simp only [hq]; rfl)
        clear hd hown hb hgl hkl
        go_wp2
        refine wp_region_ext (Below.refl _ _) (by kernel_rfl) (by kernel_rfl) ?_
        repeat (go_big_quiet_step (first | (with_reducible exact refLeaf_ext HA1 LV.out) | (with_reducible exact refLeaf_ext HA2 LW.out)))
        refine wpQuiet_nil ?_
        rintro w9 ⟨⟨_, hb9⟩, rfl⟩
        have d1' : w9.cell? ⟨b', off + k * 2, none⟩ = some (.int .u16 x) := p0 ⟨w9, hb9⟩
        have d2' : w9.cell? ⟨b', off + k * 2 + 1, none⟩ = some (.int .u32 y) := p1 ⟨w9, hb9⟩
        have hw9 := HB.out.trans (hb9.mono HB.out.size)
        have HO9 := hid ((HOWN.out.ext hb9).ext ((Below.refl _ _).alloc (Nat.le_refl _) (.cells #[.int .u16 x, .int .u32 y, .int .i64 A1, .int .i64 A2] 76)))
        have HW9 := hid (hw9.alloc hw9.size (.cells #[.int .u16 x, .int .u32 y, .int .i64 A1, .int .i64 A2] 76))
        have HSZ9 := hid HW9.out.size
        clear hw9 m0 m1 m2 m3 n0 n1 n2 n3' p0 p1
        go_wp2_with (at_builtin; go_loud (refine wpList_appendM (e := ((x, y), A1, A2)) HO9.out ?_ (by have := HGL.out; have := HNAL.out; omega) HSZ9.out rfl rfl (by simp [Act.eval, Act.put]; try rfl) rfl ?_; (intro j u hu; refine (congrArg (World.cell? _) ?_).trans (mv_at4 j u hu); simp); intro v10 w10 hown10 hg10; have HW10 := hid (below_grownM HW9.out hg10 HO9.out HSZ9.out (Nat.le_refl _)); have HO10 := hid hown10; clear hown10 hg10))
        go_roundw
        case rel => exact ⟨k + 1, _, by omega, by go_num, by have := HGL.out; simp; omega, hid (hM.out.trans (by rw [HD.out]; simp)), HO10.out, HW10.out⟩
        case measure => simp [intOf]; omega
    · have hM2 := hM.out
      rw [List.drop_eq_nil_of_le (by rw [HNA.out]; omega)] at hM2
      have HM2 : Hid (movesL V W = got) := hid (by rw [hM2]; unfold mvFrom; simp)
      have HB := hid hb
      have HOWN := hid hown
      clear hM hM2 hb hown
      go_wp2
      go_ret
      have hb6 := HB2.out.trans (HB6.out.mono HB2.out.size)
      exact ⟨_, rfl, by rw [HM2.out]; exact HOWN.out.mono2 hb6.size, hb6.trans (HB.out.mono hb6.size)⟩
end Go.Proofs.Ytbpfhclcjedkcaa

namespace Go.Proofs.Ytbpfhclcjedkcaa
open Go.RowKit

/-! ### what a view that may be is bounded by; great of a command -/
theorem lens_leC {n : Nat} : ∀ {ls : List (List Pid)}, (∀ l ∈ ls, l.length ≤ n) → lens ls ≤ ls.length * n
  | [], _ => by simp [lens]
  | l :: ls, h => by
    have h1 := h l (by simp)
    have h2 := lens_leC (ls := ls) (fun x hx => h x (by simp [hx]))
    simp only [lens, List.map_cons, List.sum_cons, List.length_cons] at *
    rw [Nat.add_mul]; omega
theorem great_noC {V : View} (h : greatB V = false) : V.ms.length ≤ 40 ∧ V.ls.length ≤ 40 ∧ V.ds.length ≤ 40 ∧ (∀ l ∈ V.ls, l.length ≤ 40) ∧ lens V.ls ≤ 1600 := by
  unfold greatB at h
  simp only [Bool.or_eq_false_iff, decide_eq_false_iff_not, List.any_eq_false] at h
  obtain ⟨a, b, c, d⟩ := h
  have d' : ∀ l ∈ V.ls, l.length ≤ 40 := fun l hl => by have := d l hl; simp at this; omega
  have := lens_leC d'
  exact ⟨by omega, by omega, by omega, d', by omega⟩
end Go.Proofs.Ytbpfhclcjedkcaa

namespace Go.Proofs.Ytbpfhclcjedkcaa
open Go.RowKit Go.Deep Go.Joins Go.ChangeShapes

/-! ### from the row's reading to processes, views, bytes, commands -/
/-- every slice and string in a datum is within the form's reach -/
def Sz {H : Type} (t : TypeId) (d : DataW H) : Prop := ∀ n ∈ d.weights Try.prog t, n ≤ reachBytes
theorem Sz.arg {H : Type} {ts : List TypeId} {ds : List (DataW H)} (h : (DataW.weightsEach Try.prog ts ds).all (· ≤ reachBytes) = true) {j : Nat} {t : TypeId} {d : DataW H} (ht : ts[j]? = some t) (hd : ds[j]? = some d) : Sz t d := by
  intro n hn
  have := List.all_eq_true.1 h _ (DataW.weights_mem_each ht hd n hn)
  simpa using this
theorem mem_weightsAll {H : Type} {e : TypeId} {d : DataW H} : ∀ {l : List (DataW H)}, d ∈ l → ∀ n ∈ d.weights Try.prog e, n ∈ DataW.weightsAll Try.prog e l
  | x :: l, h, n, hn => by
    simp only [DataW.weightsAll, List.mem_append]
    rcases List.mem_cons.1 h with rfl | h
    · exact .inl hn
    · exact .inr (mem_weightsAll h n hn)
theorem Sz.slice {H : Type} {t e : TypeId} {elems spare : List (DataW H)} (h : Sz t (.slice elems spare)) (ht : Try.prog.underlying t = some (.slice e)) :
    (elems.length + spare.length) * Try.prog.bytesOf e ≤ reachBytes ∧ (∀ d ∈ elems, Sz e d) := by
  have hw : ∀ n, n ∈ (DataW.slice elems spare).weights Try.prog t ↔ n = (elems.length + spare.length) * Try.prog.bytesOf e ∨ n ∈ DataW.weightsAll Try.prog e elems ∨ n ∈ DataW.weightsAll Try.prog e spare := by
    intro n; simp [DataW.weights, ht]
  exact ⟨h _ ((hw _).2 (.inl rfl)), fun d hd n hn => h n ((hw _).2 (.inr (.inl (mem_weightsAll hd n hn))))⟩
theorem bytesPid : Try.prog.bytesOf 26 = 8 := by kernel_rfl
theorem bytesPids : Try.prog.bytesOf 30 = 24 := by kernel_rfl
theorem cellsPid : Try.prog.cellsOf 26 = 2 := by kernel_rfl
theorem cellsU16 : Try.prog.cellsOf 23 = 1 := by kernel_rfl
theorem cellsU32 : Try.prog.cellsOf 24 = 1 := by kernel_rfl
theorem cellsU64 : Try.prog.cellsOf 29 = 1 := by kernel_rfl
theorem cellsPids : Try.prog.cellsOf 30 = 1 := by kernel_rfl
theorem cellsLeaves : Try.prog.cellsOf 31 = 1 := by kernel_rfl
theorem cellsView : Try.prog.cellsOf 33 = 4 := by kernel_rfl
theorem list4 {α : Type} {cs : List α} (h : cs.length = 4) : ∃ c0 c1 c2 c3, cs = [c0, c1, c2, c3] := by
  match cs, h with
  | [c0, c1, c2, c3], _ => exact ⟨c0, c1, c2, c3, rfl⟩
theorem list2 {α : Type} {cs : List α} (h : cs.length = 2) : ∃ c0 c1, cs = [c0, c1] := by
  match cs, h with
  | [c0, c1], _ => exact ⟨c0, c1, rfl⟩
section
variable {H : Type} {enc : TypeId × Value → H} {w : World}
theorem open_pid {n : Nat} {cs : List Value} {x : DataW H × List MemPlace} (h : DataW.trod enc Try.prog w 0 (fun _ => true) true n 26 cs = some x) :
    ∃ i c : Int, cs = [.int .u16 i, .int .u32 c] ∧ 0 ≤ i ∧ i < 65536 ∧ 0 ≤ c ∧ c < 4294967296 := by
  obtain ⟨y0, y1, m, _, hl, h0, h1⟩ := trod_struct2 Try.underlying26 h
  rw [cellsPid] at hl
  obtain ⟨c0, c1, rfl⟩ := list2 hl
  have e0 : (([c0, c1] : List Value).drop 0).take (Try.prog.cellsOf 23) = [c0] := by rw [cellsU16]; rfl
  have e1 : (([c0, c1] : List Value).drop 1).take (Try.prog.cellsOf 24) = [c1] := by rw [cellsU32]; rfl
  obtain ⟨i, hi, _, wi⟩ := DataW.trod_int Try.underlying23 (e0 ▸ h0)
  obtain ⟨c, hc, _, wc⟩ := DataW.trod_int Try.underlying24 (e1 ▸ h1)
  cases hi; cases hc
  have b0 := bounds_u16 wi
  have b1 := bounds_u32 wc
  exact ⟨i, c, rfl, b0.1, by omega, b1.1, by omega⟩

theorem open_pids {n : Nat} {cs : List Value} {x : DataW H × List MemPlace} (h : DataW.trod enc Try.prog w 0 (fun _ => true) true n 30 cs = some x) (hs : Sz 30 x.1) :
    ∃ (a : Option Addr) (c : Nat) (xs : List Pid), cs = [.slice a xs.length c] ∧ PidRow w a xs ∧ WfPids xs ∧ xs.length ≤ 17592186044416 := by
  rcases open_slice Try.underlying30 h with ⟨hv, _⟩ | ⟨a, len, cap, m, k, D, Pl, hv, _, hl, hm, hmm, hx, hel⟩
  · exact ⟨none, 0, [], hv, .inl rfl, (by intro p hp; cases hp), by simp⟩
  · simp only [if_true] at hmm
    subst hmm
    rw [cellsPid] at hel
    have hex : ∀ i, ∃ p : Pid, i < len → (w.cell? (a.add (i * 2)) = some (.int .u16 p.1) ∧ w.cell? ((a.add (i * 2)).add 1) = some (.int .u32 p.2) ∧ 0 ≤ p.1 ∧ p.1 < 65536 ∧ 0 ≤ p.2 ∧ p.2 < 4294967296) := by
      intro i
      by_cases hi : i < len
      · obtain ⟨cs', h1, h2⟩ := hel i (by omega)
        obtain ⟨pi, pc, rfl, b0, b1, b2, b3⟩ := open_pid h2
        obtain ⟨_, _, hc⟩ := World.cells?_some h1
        exact ⟨(pi, pc), fun _ => ⟨by simpa [Addr.add] using hc 0 (by omega), by simpa using hc 1 (by omega), b0, b1, b2, b3⟩⟩
      · exact ⟨(0, 0), fun h => absurd h hi⟩
    obtain ⟨f, hf⟩ := Classical.axiomOfChoice hex
    rw [hx] at hs
    obtain ⟨hw, _⟩ := hs.slice Try.underlying30
    rw [bytesPid] at hw
    simp only [List.length_map, List.length_range] at hw
    have hlen : len ≤ 17592186044416 := by unfold reachBytes at hw; omega
    refine ⟨some a, m, (List.range len).map f, by rw [hv]; simp, ?_, ?_, by simpa using hlen⟩
    · by_cases h0 : len = 0
      · subst h0; exact .inl rfl
      · have ha := (hf 0 (by omega)).1
        have hsp : a.spot = none := by simpa [Addr.add] using World.cell?_spot ha
        obtain ⟨b, off, sp⟩ := a
        simp only at hsp
        subst hsp
        refine .inr ⟨b, off, rfl, ?_, fun i hi => ?_⟩
        · have := World.block_lt_of_cell? w _ ha
          simpa [addr_add] using this
        · have hi' : i < len := by simpa using hi
          obtain ⟨g1, g2, _⟩ := hf i hi'
          rw [addr_add, addr_add] at g2
          rw [addr_add] at g1
          simpa using ⟨g1, g2⟩
    · intro p hp
      obtain ⟨i, hi, rfl⟩ := List.mem_map.1 hp
      obtain ⟨_, _, g⟩ := hf i (by simpa using hi)
      exact g

theorem open_leaves {n : Nat} {v : Value} {x : DataW H × List MemPlace} (h : DataW.trod enc Try.prog w 0 (fun _ => true) true n 31 [v] = some x) (hs : Sz 31 x.1) :
    ∃ (a : Option Addr) (c : Nat) (ls : List (List Pid)), v = .slice a ls.length c ∧ LeafRow w a ls ∧ (∀ l ∈ ls, WfPids l) ∧ ls.length ≤ 17592186044416 ∧ ∀ l ∈ ls, l.length ≤ 17592186044416 := by
  rcases open_slice1 Try.underlying31 cellsPids h with ⟨hv, _⟩ | ⟨a, len, cap, m, k, Vs, D, Pl, hv, _, hl, hm, hmm, hx, hel⟩
  · cases hv
    exact ⟨none, 0, [], rfl, .inl rfl, (by intro p hp; cases hp), by simp, by intro p hp; cases hp⟩
  · cases hv
    simp only [if_true] at hmm
    subst hmm
    rw [hx] at hs
    obtain ⟨hw, hel2⟩ := hs.slice Try.underlying31
    rw [bytesPids] at hw
    simp only [List.length_map, List.length_range] at hw
    have hlen : len ≤ 17592186044416 := by unfold reachBytes at hw; omega
    have hex : ∀ i, ∃ l : List Pid, i < len → ∃ ai ci, (w.cell? (a.add i) = some (.slice ai l.length ci) ∧ PidRow w ai l ∧ WfPids l ∧ l.length ≤ 17592186044416) := by
      intro i
      by_cases hi : i < len
      · obtain ⟨h1, h2⟩ := hel i (by omega)
        obtain ⟨ai, ci, l, hv, hr, hw, hb⟩ := open_pids h2 (hel2 _ (List.mem_map.2 ⟨i, by simpa using hi, rfl⟩))
        have hv := List.cons.inj hv
        exact ⟨l, fun _ => ⟨ai, ci, by rw [h1, hv.1], hr, hw, hb⟩⟩
      · exact ⟨[], fun h => absurd h hi⟩
    obtain ⟨f, hf⟩ := Classical.axiomOfChoice hex
    refine ⟨some a, m, (List.range len).map f, by simp, ?_, ?_, by simpa using hlen, ?_⟩
    · by_cases h0 : len = 0
      · subst h0; exact .inl rfl
      · obtain ⟨_, _, ha, _⟩ := hf 0 (by omega)
        have hsp : a.spot = none := by simpa [Addr.add] using World.cell?_spot ha
        obtain ⟨b, off, sp⟩ := a
        simp only at hsp
        subst hsp
        refine .inr ⟨b, off, rfl, ?_, fun i hi => ?_⟩
        · have := World.block_lt_of_cell? w _ ha
          simpa [addr_add] using this
        · have hi' : i < len := by simpa using hi
          obtain ⟨ai, ci, g1, g2, _⟩ := hf i hi'
          rw [addr_add] at g1
          exact ⟨ai, ci, by simpa using g1, by simpa using g2⟩
    · intro l hl
      obtain ⟨i, hi, rfl⟩ := List.mem_map.1 hl
      obtain ⟨_, _, _, _, g, _⟩ := hf i (by simpa using hi)
      exact g
    · intro l hl
      obtain ⟨i, hi, rfl⟩ := List.mem_map.1 hl
      obtain ⟨_, _, _, _, _, g⟩ := hf i (by simpa using hi)
      exact g

/-- a view that is plain data -/
structure WfView (V : View) : Prop where
  id : 0 ≤ V.id ∧ V.id < 18446744073709551616
  ms : WfPids V.ms
  ls : ∀ l ∈ V.ls, WfPids l
  ds : WfPids V.ds
set_option maxRecDepth 100000 in
theorem open_viewL {n : Nat} {cs : List Value} {x : DataW H × List MemPlace} (h : DataW.trod enc Try.prog w 0 (fun _ => true) true n 33 cs = some x) (hs : Sz 33 x.1) :
    ∃ (V : View) (am al ad : Option Addr) (cm cl cd : Nat), cs = [.int .u64 V.id, .slice am V.ms.length cm, .slice al V.ls.length cl, .slice ad V.ds.length cd] ∧ ViewR w am al ad V ∧ WfView V := by
  obtain ⟨y0, y1, y2, y3, m, hx, hl, h0, h1, h2, h3⟩ := trod_struct4 Try.underlying33 h
  rw [cellsView] at hl
  obtain ⟨v0, v1, v2, v3, rfl⟩ := list4 hl
  have e0 : (([v0, v1, v2, v3] : List Value).drop 0).take (Try.prog.cellsOf 29) = [v0] := by rw [cellsU64]; rfl
  have e1 : (([v0, v1, v2, v3] : List Value).drop 1).take (Try.prog.cellsOf 30) = [v1] := by rw [cellsPids]; rfl
  have e2 : (([v0, v1, v2, v3] : List Value).drop 2).take (Try.prog.cellsOf 31) = [v2] := by rw [cellsLeaves]; rfl
  have e3 : (([v0, v1, v2, v3] : List Value).drop 3).take (Try.prog.cellsOf 30) = [v3] := by rw [cellsPids]; rfl
  have h0 := e0 ▸ h0
  have h1 := e1 ▸ h1
  have h2 := e2 ▸ h2
  have h3 := e3 ▸ h3
  have hw : ∀ k, (k ∈ y1.1.weights Try.prog 30 ∨ k ∈ y2.1.weights Try.prog 31 ∨ k ∈ y3.1.weights Try.prog 30) → k ≤ reachBytes := by
    intro k hk
    refine hs k ?_
    have e : x.1.weights Try.prog 33 = y0.1.weights Try.prog 29 ++ (y1.1.weights Try.prog 30 ++ (y2.1.weights Try.prog 31 ++ (y3.1.weights Try.prog 30 ++ []))) := by
      rw [hx]; simp [DataW.weights, Try.underlying33, DataW.weightsEach]
    rw [e]
    simp only [List.mem_append, List.append_nil]
    rcases hk with hk | hk | hk
    · exact .inr (.inl hk)
    · exact .inr (.inr (.inl hk))
    · exact .inr (.inr (.inr hk))
  obtain ⟨i, hi, _, wi⟩ := DataW.trod_int Try.underlying29 h0
  cases hi
  obtain ⟨am, cm, ms, hv1, rm, wm, bm⟩ := open_pids h1 (fun k hk => hw k (.inl hk))
  obtain ⟨al, cl, ls, rfl, rl, wl, bl, bl2⟩ := open_leaves h2 (fun k hk => hw k (.inr (.inl hk)))
  obtain ⟨ad, cd, ds, hv3, rd, wd, bd⟩ := open_pids h3 (fun k hk => hw k (.inr (.inr hk)))
  cases hv1; cases hv3
  have b0 := bounds_u64 wi
  exact ⟨⟨i, ms, ls, ds⟩, am, al, ad, cm, cl, cd, rfl, ⟨rm, rl, rd, by simp only; omega, by simp only; omega, by simp only; omega, fun l hl => by have := bl2 l hl; omega⟩, ⟨⟨b0.1, by simp only; omega⟩, wm, wl, wd⟩⟩
set_option maxRecDepth 100000 in
theorem open_view {base : Nat} {v : Value} {d : DataW H} {p : List MemPlace} (hv : Value.okWide Try.prog w .any base 33 v) (h : DataW.Trod enc Try.prog w 0 (fun _ => true) true 33 v d p) (hs : Sz 33 d) :
    ∃ (V : View) (am al ad : Option Addr) (cm cl cd : Nat), v = .agg #[.int .u64 V.id, .slice am V.ms.length cm, .slice al V.ls.length cl, .slice ad V.ds.length cd] ∧ ViewR w am al ad V ∧ WfView V := by
  obtain ⟨cs, rfl, hsz⟩ := Go.WideShapes.okWide_struct Try.underlying33 hv
  obtain ⟨fuel, hf⟩ := h
  obtain ⟨V, am, al, ad, cm, cl, cd, hcs, hR, hwf⟩ := open_viewL (x := (d, p)) hf hs
  exact ⟨V, am, al, ad, cm, cl, cd, by rw [← Array.toArray_toList (xs := cs)]; simp only [Value.cells] at hcs; rw [hcs], hR, hwf⟩
end
section
variable {H : Type} {enc : TypeId × Value → H} {w : World}
end
section
variable {H : Type} {enc : TypeId × Value → H} {w : World}
end
end Go.Proofs.Ytbpfhclcjedkcaa

namespace Go.Proofs.Ytbpfhclcjedkcaa
open Go.RowKit
/-! ### LayoutMoves -/
theorem neq_mv (a b f t : Int) (w : World) : (binOp .neq 76 (.agg #[.int .u16 a, .int .u32 b, .int .i64 f, .int .i64 t]) (.agg #[.int .u16 a, .int .u32 b, .int .i64 f, .int .i64 t])).run Try.prog w = .ok (.bool false) w := by
  have hS : Try.prog.underlying 76 = some (.struct (Try.prog.fieldsOf 76)) := by kernel_rfl
  have hp : Try.prog.stoodInHeld 76 = false := by kernel_rfl
  rw [run_neq_struct, show (10000 : Nat) = 9999 + 1 from rfl, run_equalIn_agg w 9999 76 _ _ hS hp]
  simp only [Program.fieldsOf, Try.underlying76]
  go_simp
theorem MvRow.at {w wr : World} {a : Option Addr} {es : List Mv} (h : MvRow w a es) (hb : Below w.heap.size w wr) {k : Nat} (hk : k < es.length) :
    ∃ b off x y f t, a = some ⟨b, off, none⟩ ∧ ((x, y), f, t) = es[k] ∧ wr.cell? ⟨b, off + k * 4, none⟩ = some (.int .u16 x) ∧ wr.cell? ⟨b, off + k * 4 + 1, none⟩ = some (.int .u32 y) ∧ wr.cell? ⟨b, off + k * 4 + 2, none⟩ = some (.int .i64 f) ∧ wr.cell? ⟨b, off + k * 4 + 3, none⟩ = some (.int .i64 t) := by
  rcases h with rfl | ⟨b, off, rfl, hlt, hc⟩
  · simp at hk
  · obtain ⟨h0, h1, h2, h3⟩ := hc k hk
    exact ⟨b, off, es[k].1.1, es[k].1.2, es[k].2.1, es[k].2.2, rfl, rfl, cell_toB h0 hb, cell_toB h1 hb, cell_toB h2 hb, cell_toB h3 hb⟩
set_option maxRecDepth 100000 in
set_option maxHeartbeats 6400000 in
theorem layoutMoves_law {V W : View} {am al ad bm bl bd : Option Addr} {cm cl cd em el ed : Nat} {w : World} (hV : ViewR w am al ad V) (_hwv : WfView V) (hW : ViewR w bm bl bd W) (_hww : WfView W) :
    Calls Try.prog 9 #[.agg #[.int .u64 V.id, .slice am V.ms.length cm, .slice al V.ls.length cl, .slice ad V.ds.length cd], .agg #[.int .u64 W.id, .slice bm W.ms.length em, .slice bl W.ls.length el, .slice bd W.ds.length ed]] w fun e w' => e = .returned (.bool true) ∧ Below w.heap.size w w' := by
  obtain ⟨W2, hW2⟩ : ∃ W2, ((w.alloc (.cells #[.int .u64 V.id, .slice am V.ms.length cm, .slice al V.ls.length cl, .slice ad V.ds.length cd] 33)).alloc (.cells #[.int .u64 W.id, .slice bm W.ms.length em, .slice bl W.ls.length el, .slice bd W.ds.length ed] 33)) = W2 := ⟨_, rfl⟩
  have hB2 : Below w.heap.size w W2 := by rw [← hW2]; exact ((Below.refl _ _).alloc (Nat.le_refl _) _).alloc (by simp) _
  have xV : ViewBox W2 w.heap.size V am al ad cm cl cd := by rw [← hW2]; exact (ViewBox.made (V := V) w).ext ((Below.refl _ _).alloc (Nat.le_refl _) _) (by simp)
  have xW : ViewBox W2 (w.heap.size + 1) W bm bl bd em el ed := by
    rw [← hW2]
    have := ViewBox.made (V := W) (am := bm) (al := bl) (ad := bd) (cm := em) (cl := el) (cd := ed) (w.alloc (.cells #[.int .u64 V.id, .slice am V.ms.length cm, .slice al V.ls.length cl, .slice ad V.ds.length cd] 33))
    simpa using this
  obtain ⟨gv, hgv⟩ : ∃ r, greatB V = r := ⟨_, rfl⟩
  obtain ⟨gw, hgw⟩ : ∃ r, greatB W = r := ⟨_, rfl⟩
  have C1 := hid (great_is (cm := cm) (cl := cl) (cd := cd) (hid hgv) (hV.ext hB2))
  have C2 : Hid (∀ X, Below W2.heap.size W2 X → Calls Try.prog 18 #[.agg #[.int .u64 W.id, .slice bm W.ms.length em, .slice bl W.ls.length el, .slice bd W.ds.length ed]] X fun e w' => e = .returned (.bool gw) ∧ Below X.heap.size X w') := hid fun X h => great_is (cm := em) (cl := el) (cd := ed) (hid hgw) ((hW.ext hB2).ext h)
  have HV2 := hid (hV.ext hB2)
  have HW2 := hid (hW.ext hB2)
  have HXV := hid xV
  have HXW := hid xW
  have HB2 := hid hB2
  have HGV := hid hgv
  have HGW := hid hgw
  obtain ⟨v0, v1, v2, v3⟩ := id xV
  clear hV hW hB2 xV xW hgv hgw
  cases gv
  case true =>
    go_enter Try.func9, Try.ntmps9
    go_wp2_with fail
    (with_reducible refine C1.out.mono ?_)
    rintro e w3 ⟨rfl, hb3⟩
    have HB3 := hid (HB2.out.trans (hb3.mono HB2.out.size))
    have CA := hid (awakeL_any w3)
    clear hb3 C1 v0 v1 v2 v3 hW2
    go_wp2_with fail
    (with_reducible refine CA.out.mono ?_)
    rintro e w4 ⟨rfl, hb4⟩
    have HB4 := hid (HB3.out.trans (hb4.mono HB3.out.size))
    clear hb4 CA
    go_wp2
    go_ret
    exact ⟨rfl, HB4.out⟩
  case false =>
  cases gw
  case true =>
    go_enter Try.func9, Try.ntmps9
    go_wp2_with fail
    (with_reducible refine C1.out.mono ?_)
    rintro e w3 ⟨rfl, hb3⟩
    have C2w := C2.out _ hb3
    clear v0 v1 v2 v3
    obtain ⟨u0, u1, u2, u3⟩ := HXW.out.ext hb3 HXW.out.lt
    clear C1 C2 hW2
    go_wp2_with fail
    (with_reducible refine C2w.mono ?_)
    rintro e w4 ⟨rfl, hb4⟩
    have HB4 := hid (HB2.out.trans ((hb3.trans (hb4.mono hb3.size)).mono HB2.out.size))
    have CA := hid (awakeL_any w4)
    clear hb3 hb4 C2w u0 u1 u2 u3
    go_wp2_with fail
    (with_reducible refine CA.out.mono ?_)
    rintro e w5 ⟨rfl, hb5⟩
    have HB5 := hid (HB4.out.trans (hb5.mono HB4.out.size))
    clear hb5 CA
    go_wp2
    go_ret
    exact ⟨rfl, HB5.out⟩
  case false =>
  obtain ⟨n, hn⟩ : ∃ n, (movesL V W).length = n := ⟨_, rfl⟩
  have hlv := (great_noC HGV.out).1
  have hlw := (great_noC HGW.out).1
  have hnl : n ≤ 80 := by
    rw [← hn]
    have h1 := moves_len (V := V) (W := W) hlv hlw
    unfold movesL mvFrom
    have := List.length_filter_le mvKeep ((allMs V W).map (mvOf V W))
    rw [List.length_map] at this
    omega
  have HN := hid hn
  have HLV := hid hlv
  have HLW := hid hlw
  clear hn hlv hlw
  go_enter Try.func9, Try.ntmps9
  go_wp2_with fail
  (with_reducible refine C1.out.mono ?_)
  rintro e w3 ⟨rfl, hb3⟩
  have C2w := C2.out _ hb3
  clear v0 v1 v2 v3
  obtain ⟨u0, u1, u2, u3⟩ := HXW.out.ext hb3 HXW.out.lt
  clear C1 C2 hW2
  go_wp2_with fail
  (with_reducible refine C2w.mono ?_)
  rintro e w4 ⟨rfl, hb4⟩
  have hb24 := hb3.trans (hb4.mono hb3.size)
  have HB4 := hid (HB2.out.trans (hb24.mono HB2.out.size))
  have HV4 := hid (HV2.out.ext hb24)
  have HW4 := hid (HW2.out.ext hb24)
  have HX4 := hid (HXV.out.ext hb24 HXV.out.lt)
  have HY4 := hid (HXW.out.ext hb24 HXW.out.lt)
  have HS : Hid (∀ X, Below w4.heap.size w4 X → ViewBox X w.heap.size V am al ad cm cl cd ∧ ViewBox X (w.heap.size + 1) W bm bl bd em el ed) := hid fun X h => ⟨HX4.out.ext h HX4.out.lt, HY4.out.ext h HY4.out.lt⟩
  have CA : Hid (Calls Try.prog 46 #[.agg #[.int .u64 V.id, .slice am V.ms.length cm, .slice al V.ls.length cl, .slice ad V.ds.length cd], .agg #[.int .u64 W.id, .slice bm W.ms.length em, .slice bl W.ls.length el, .slice bd W.ds.length ed]] w4.drew fun e w' => ∃ v, e = .returned v ∧ OwnM w' w4.drew.heap.size v (movesL V W) ∧ Below w4.drew.heap.size w4.drew w') := hid (moves_any (HV4.out.ext (Below.refl _ _).drew) (HW4.out.ext (Below.refl _ _).drew) HLV.out HLW.out)
  clear hb3 hb4 hb24 C2w u0 u1 u2 u3
  go_wp2
  refine wp_region_held_drew (S := fun X => ViewBox X w.heap.size V am al ad cm cl cd ∧ ViewBox X (w.heap.size + 1) W bm bl bd em el ed) (by kernel_rfl) (by exact HS.out _ (Below.refl _ _).drew) (fun hHeld => ?_)
  refine wpAnyH_take (i := 0) (oi := _) (v := .agg #[.int .u64 V.id, .slice am V.ms.length cm, .slice al V.ls.length cl, .slice ad V.ds.length cd]) rfl (by kernel_rfl) (by kernel_rfl) (by kernel_rfl) (fun _ _ _ h => h) (Or.inl ⟨by rfl, ?_⟩) (by assumption) ?_
  · intro W hSw
    try dsimp only at hSw
    obtain ⟨⟨h0, h1, h2, h3⟩, -⟩ := hSw
    go_simp
  try simp only [Act.put, List.getElem_toArray, List.getElem_cons_succ, List.getElem_cons_zero, List.setIfInBounds_toArray, List.set_cons_zero, List.set_cons_succ]
  refine wpAnyH_take (i := 1) (oi := _) (v := .agg #[.int .u64 W.id, .slice bm W.ms.length em, .slice bl W.ls.length el, .slice bd W.ds.length ed]) rfl (by kernel_rfl) (by kernel_rfl) (by kernel_rfl) (fun _ _ _ h => h) (Or.inl ⟨by rfl, ?_⟩) (by assumption) ?_
  · intro W hSw
    try dsimp only at hSw
    obtain ⟨-, ⟨h0, h1, h2, h3⟩⟩ := hSw
    go_simp
  try simp only [Act.put, List.getElem_toArray, List.getElem_cons_succ, List.getElem_cons_zero, List.setIfInBounds_toArray, List.set_cons_zero, List.set_cons_succ]
  refine wpAnyH_take (i := 3) (oi := _) (v := .agg #[.int .u64 V.id, .slice am V.ms.length cm, .slice al V.ls.length cl, .slice ad V.ds.length cd]) rfl (by kernel_rfl) (by kernel_rfl) (by kernel_rfl) (fun _ _ _ h => h) (Or.inl ⟨by rfl, ?_⟩) (by assumption) ?_
  · intro W hSw
    try dsimp only at hSw
    obtain ⟨⟨h0, h1, h2, h3⟩, -⟩ := hSw
    go_simp
  try simp only [Act.put, List.getElem_toArray, List.getElem_cons_succ, List.getElem_cons_zero, List.setIfInBounds_toArray, List.set_cons_zero, List.set_cons_succ]
  refine wpAnyH_take (i := 4) (oi := _) (v := .agg #[.int .u64 W.id, .slice bm W.ms.length em, .slice bl W.ls.length el, .slice bd W.ds.length ed]) rfl (by kernel_rfl) (by kernel_rfl) (by kernel_rfl) (fun _ _ _ h => h) (Or.inl ⟨by rfl, ?_⟩) (by assumption) ?_
  · intro W hSw
    try dsimp only at hSw
    obtain ⟨-, ⟨h0, h1, h2, h3⟩⟩ := hSw
    go_simp
  try simp only [Act.put, List.getElem_toArray, List.getElem_cons_succ, List.getElem_cons_zero, List.setIfInBounds_toArray, List.set_cons_zero, List.set_cons_succ]
  refine wpAnyH_ready (rs := [2]) (by kernel_rfl) (by simp) ?_
  refine AllReadyH.cons (o := _) rfl (fun K hK => ?_) AllReadyH.nil
  go_simp
  (with_reducible refine CA.out.mono ?_)
  rintro e w5 ⟨v5, rfl, hown5, hb5⟩
  obtain ⟨a5, c5, e5, hr5⟩ := hown5.row
  rw [HN.out] at e5
  subst e5
  have HB5 : Hid (Below w4.heap.size w4 w5) := hid ((Below.refl _ _).drew.trans hb5)
  have HR5 := hid hr5
  clear hown5 hb5 hr5 CA
  refine hK.out _ _ (HS.out _ HB5.out) (fun hHeld => ?_)
  clear hK K
  try simp only [Act.put, List.getElem_toArray, List.getElem_cons_succ, List.getElem_cons_zero, List.setIfInBounds_toArray, List.set_cons_zero, List.set_cons_succ]
  have CB := hid (refMoves_any (cm := cm) (cl := cl) (cd := cd) (em := em) (el := el) (ed := ed) (HV4.out.ext HB5.out) (HW4.out.ext HB5.out) HLV.out HLW.out)
  refine wpAnyH_ready (rs := [5]) (by kernel_rfl) (by simp) ?_
  refine AllReadyH.cons (o := _) rfl (fun K hK => ?_) AllReadyH.nil
  go_simp
  (with_reducible refine CB.out.mono ?_)
  rintro e w6 ⟨v6, rfl, hown6, hb6⟩
  obtain ⟨a6, c6, e6, hr6⟩ := hown6.row
  rw [HN.out] at e6
  subst e6
  have HB6 : Hid (Below w4.heap.size w4 w6) := hid (HB5.out.trans (hb6.mono HB5.out.size))
  have HR6 := hid hr6
  have HR56 := hid (HR5.out.ext hb6)
  clear hown6 hb6 hr6 CB
  refine hK.out _ _ (HS.out _ HB6.out) (fun hHeld => ?_)
  clear hK K
  try simp only [Act.put, List.getElem_toArray, List.getElem_cons_succ, List.getElem_cons_zero, List.setIfInBounds_toArray, List.set_cons_zero, List.set_cons_succ]
  refine wpAnyH_ready (rs := [6]) (by kernel_rfl) (by simp) ?_
  refine AllReadyH.cons (o := _) rfl (fun K hK => ?_) AllReadyH.nil
  go_simp
  refine hK.out _ _ (HS.out _ HB6.out) (fun hHeld => ?_)
  clear hK K
  try simp only [Act.put, List.getElem_toArray, List.getElem_cons_succ, List.getElem_cons_zero, List.setIfInBounds_toArray, List.set_cons_zero, List.set_cons_succ]
  refine wpAnyH_ready (rs := [7]) (by kernel_rfl) (by simp) ?_
  refine AllReadyH.cons (o := _) rfl (fun K hK => ?_) AllReadyH.nil
  go_simp
  refine hK.out _ _ (HS.out _ HB6.out) (fun hHeld => ?_)
  clear hK K
  try simp only [Act.put, List.getElem_toArray, List.getElem_cons_succ, List.getElem_cons_zero, List.setIfInBounds_toArray, List.set_cons_zero, List.set_cons_succ]
  refine wpAnyH_done (by kernel_rfl) ?_ _
  have t1 : ((n : Int) != (n : Int)) = false := bne_self_eq_false _
  obtain ⟨v0, v1, v2, v3⟩ := (HS.out _ HB6.out).1
  have CS := hid (moves_any (cm := cm) (cl := cl) (cd := cd) (em := cm) (el := cl) (ed := cd) (HV4.out.ext HB6.out) (HV4.out.ext HB6.out) HLV.out HLV.out)
  clear HS
  go_wp2_with fail
  (with_reducible refine CS.out.mono ?_)
  rintro e w7 ⟨v7, rfl, hown7, hb7⟩
  rw [moves_self] at hown7
  obtain ⟨a7, c7, e7, -⟩ := hown7.row
  have e7' : v7 = .slice a7 0 c7 := e7
  subst e7'
  have HB7 := hid (HB4.out.trans ((HB6.out.trans (hb7.mono HB6.out.size)).mono HB4.out.size))
  have HQ5 := hid (HR56.out.ext hb7)
  have HQ6 := hid (HR6.out.ext hb7)
  clear hown7 hb7 e7 CS v0 v1 v2 v3
  go_wp2
  go_loopw [7] (fun i wr => ∃ k : Nat, k ≤ n ∧ i = .int .i64 k ∧ Below w7.heap.size w7 wr) (fun i _ => n - (intOf i).toNat)
  case atStart => exact ⟨0, Nat.zero_le _, rfl, Below.refl _ _⟩
  case round =>
    obtain ⟨k, hk, rfl, hb⟩ := hrel
    by_cases hlt : k < n
    · have hkl : k < (movesL V W).length := by rw [HN.out]; exact hlt
      obtain ⟨b5, o5, x, y, f, t, q5, q5', p0, p1, p2, p3⟩ := HQ5.out.at hb hkl
      obtain ⟨b6, o6, x', y', f', t', q6, q6', r0, r1, r2, r3⟩ := HQ6.out.at hb hkl
      have hee := q5'.trans q6'.symm
      obtain ⟨⟨rfl, rfl⟩, rfl, rfl⟩ : (x = x' ∧ y = y') ∧ f = f' ∧ t = t' := by simpa using hee
      subst q5; subst q6
      have m0 := cell_extw p0
      have m1 := cell_extw p1
      have m2 := cell_extw p2
      have m3 := cell_extw p3
      have n0 := cell_extw r0
      have n1 := cell_extw r1
      have n2 := cell_extw r2
      have n3 := cell_extw r3
      have hne := neq_mv x y f t
      have HB := hid hb
      clear p0 p1 p2 p3 r0 r1 r2 r3 q5' q6' hee hb hkl
      go_wp2
      refine wp_region_ext (Below.refl _ _) (by kernel_rfl) (by kernel_rfl) ?_
      repeat (go_big_quiet_step (fail))
      refine wpQuiet_nil ?_
      rintro w9 ⟨⟨_, hb9⟩, rfl⟩
      have HB9 := hid (HB.out.trans (hb9.mono HB.out.size))
      clear hb9 m0 m1 m2 m3 n0 n1 n2 n3
      go_wp2
      go_roundw
      case rel => exact ⟨k + 1, by omega, by go_num, HB9.out⟩
      case measure => simp [intOf]; omega
    · have HB := hid (HB7.out.trans (hb.mono HB7.out.size))
      rename World => wz
      have CA := hid (awakeL_any wz)
      clear hb
      go_wp2_with fail
      (with_reducible refine CA.out.mono ?_)
      rintro e w8 ⟨rfl, hb8⟩
      have HB8 := hid (HB.out.trans (hb8.mono HB.out.size))
      clear hb8 CA
      go_wp2
      go_ret
      exact ⟨rfl, HB8.out⟩
end Go.Proofs.Ytbpfhclcjedkcaa

