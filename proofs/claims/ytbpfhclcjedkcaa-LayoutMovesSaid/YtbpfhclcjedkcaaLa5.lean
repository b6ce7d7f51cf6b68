/- Parts of the proof: S1 N1 A1 A2. -/
import Derived.Deep.RegionWith
import Derived.Test.YtbpfhclcjedkcaaLa4
namespace Go.Proofs.Ytbpfhclcjedkcaa
open Go.RowKit

/-! ### slices.Equal, EqualFunc, the references' Same: lists are the same -/
def eqFrom : List Pid → List Pid → Bool
  | [], _ => true
  | _ :: _, [] => true
  | x :: l, y :: r => if x = y then eqFrom l r else false
theorem eqFrom_drop {xs ys : List Pid} {k : Nat} (h : k < xs.length) (h' : k < ys.length) {p q : Pid} (hp : p = xs[k]) (hq : q = ys[k]) : eqFrom (xs.drop k) (ys.drop k) = if p = q then eqFrom (xs.drop (k + 1)) (ys.drop (k + 1)) else false := by
  rw [List.drop_eq_getElem_cons h, List.drop_eq_getElem_cons h', ← hp, ← hq]; rfl
theorem eqFrom_iff : ∀ {xs ys : List Pid}, xs.length = ys.length → (eqFrom xs ys = true ↔ xs = ys)
  | [], [], _ => by simp [eqFrom]
  | x :: l, y :: r, h => by
    have ih := eqFrom_iff (xs := l) (ys := r) (by simpa using h)
    simp only [eqFrom]
    by_cases hxy : x = y
    · rw [if_pos hxy, ih]; simp [hxy]
    · rw [if_neg hxy]; simp [hxy]
  | [], y :: r, h => by simp at h
  | x :: l, [], h => by simp at h
theorem eqFrom_eq {xs ys : List Pid} (h : xs.length = ys.length) : decide (xs = ys) = eqFrom xs ys := by
  rw [Bool.eq_iff_iff, eqFrom_iff h]; simp

set_option maxRecDepth 100000 in
set_option maxHeartbeats 800000 in
theorem sameR_any (a b : Option Addr) (ca cb : Nat) (xs ys : List Pid) (w : World) (hn : xs.length ≤ 70368744177664) (_hm : ys.length ≤ 70368744177664) (hx : PidRow w a xs) (hy : PidRow w b ys) :
   Calls Try.prog 66 #[.slice a xs.length ca, .slice b ys.length cb] w fun e w' => e = .returned (.bool (decide (xs = ys))) ∧ Below w.heap.size w w' := by
  by_cases hl : xs.length = ys.length
  · have hsp := eqFrom_eq hl
    have hl' : ((xs.length : Int) != (ys.length : Int)) = false := by rw [hl]; simp
    have HL := hid hl
    have HSP := hid hsp
    clear hl hsp
    go_enter Try.func66, Try.ntmps66
    go_wp2
    go_loopw [4, 5] (fun rs kv wr => rs = .bool false ∧ ∃ k : Nat, k ≤ xs.length ∧ kv = .int .i64 k ∧ Hid (decide (xs = ys) = eqFrom (xs.drop k) (ys.drop k)) ∧ Below w.heap.size w wr) (fun _ kv _ => xs.length - (intOf kv).toNat)
    case atStart => exact ⟨rfl, 0, Nat.zero_le _, rfl, HSP, Below.refl _ _⟩
    case round =>
      obtain ⟨rfl, k, hk, rfl, ha, hb⟩ := hrel
      by_cases hkt : k < xs.length
      · have hkt' : k < ys.length := by have := HL.out; omega
        obtain ⟨b1, o1, x1, y1, rfl, hx1, q0, q1⟩ := hx.at hb rfl hkt
        obtain ⟨b2, o2, x2, y2, rfl, hx2, q2, q3⟩ := hy.at hb rfl hkt'
        have hd := eqFrom_drop hkt hkt' hx1 hx2
        have HD := hid hd
        clear hd hx1 hx2
        have he := fun w => neq_pid x1 y1 x2 y2 w
        by_cases hxy : (x1, y1) = (x2, y2)
        · have hxy1 : decide ((x1, y1) = (x2, y2)) = true := by simpa using hxy
          rw [hxy1] at he
          have HXY := hid hxy
          clear hxy hxy1
          go_wp2
          go_quiet (fail)
          go_wp2
          go_roundw
          case rel => exact ⟨rfl, k + 1, by omega, by go_num, (ha.out.trans (by rw [HD.out, if_pos HXY.out]) : _), below_drewN hb _⟩
          case measure => simp [intOf]; omega
        · have hxy1 : decide ((x1, y1) = (x2, y2)) = false := by simpa using hxy
          rw [hxy1] at he
          have HXY : Hid (¬ (x1, y1) = (x2, y2)) := hxy
          clear hxy hxy1
          go_wp2
          go_quiet (fail)
          go_wp2
          go_ret
          exact ⟨ret_bool (by rw [ha.out, HD.out, if_neg HXY.out]), below_drewN hb _⟩
      · go_wp2
        go_ret
        exact ⟨ret_bool (by rw [ha.out, List.drop_eq_nil_of_le (by omega)]; rfl), hb⟩
  · have hne : decide (xs = ys) = false := by simp; intro e; exact hl (by rw [e])
    have hl' : ((xs.length : Int) != (ys.length : Int)) = true := by rw [bne_iff_ne]; omega
    have HN := hid hne
    clear hne hl
    go_enter Try.func66, Try.ntmps66
    go_wp2
    go_ret
    exact ⟨ret_bool HN.out.symm, Below.refl _ _⟩

section
variable {a b : Option Addr} {ca cb : Nat} {xs ys : List Pid} {w : World} {bm : Bool} (h : Hid (decide (xs = ys) = bm)) (hn : xs.length ≤ 70368744177664) (hm : ys.length ≤ 70368744177664) (hx : PidRow w a xs) (hy : PidRow w b ys)
include h hn hm hx hy
theorem sameR_is : Calls Try.prog 66 #[.slice a xs.length ca, .slice b ys.length cb] w fun e w' => e = .returned (.bool bm) ∧ Below w.heap.size w w' := by
  have := sameR_any a b ca cb xs ys w hn hm hx hy
  rw [h.out] at this
  exact this
theorem sameR_ext {U : ExtW w} : Calls Try.prog 66 #[.slice a xs.length ca, .slice b ys.length cb] U.W fun e w' => e = .returned (.bool bm) ∧ ∃ U' : ExtW w, w' = U'.W :=
  quiet_of (sameR_any a b ca cb xs ys U.W hn hm (hx.ext U.h) (hy.ext U.h)) (by rw [h.out])
end

/-! lists of lists -/
def eqLFrom : List (List Pid) → List (List Pid) → Bool
  | [], _ => true
  | _ :: _, [] => true
  | x :: l, y :: r => if x = y then eqLFrom l r else false
theorem eqLFrom_drop {xs ys : List (List Pid)} {k : Nat} (h : k < xs.length) (h' : k < ys.length) {p q : List Pid} (hp : p = xs[k]) (hq : q = ys[k]) : eqLFrom (xs.drop k) (ys.drop k) = if p = q then eqLFrom (xs.drop (k + 1)) (ys.drop (k + 1)) else false := by
  rw [List.drop_eq_getElem_cons h, List.drop_eq_getElem_cons h', ← hp, ← hq]; rfl
theorem eqLFrom_iff : ∀ {xs ys : List (List Pid)}, xs.length = ys.length → (eqLFrom xs ys = true ↔ xs = ys)
  | [], [], _ => by simp [eqLFrom]
  | x :: l, y :: r, h => by
    have ih := eqLFrom_iff (xs := l) (ys := r) (by simpa using h)
    simp only [eqLFrom]
    by_cases hxy : x = y
    · rw [if_pos hxy, ih]; simp [hxy]
    · rw [if_neg hxy]; simp [hxy]
  | [], y :: r, h => by simp at h
  | x :: l, [], h => by simp at h
theorem eqLFrom_eq {xs ys : List (List Pid)} (h : xs.length = ys.length) : decide (xs = ys) = eqLFrom xs ys := by
  rw [Bool.eq_iff_iff, eqLFrom_iff h]; simp

end Go.Proofs.Ytbpfhclcjedkcaa

namespace Go.Proofs.Ytbpfhclcjedkcaa
open Go.RowKit

/-! ### plain: sorting -/
theorem keys_union_nodup : ∀ (xs : List Pid) (L : List (Pid × Unit)), (∀ x ∈ xs, x ∉ keys L) → xs.Nodup → keys (unionL L xs) = keys L ++ xs
  | [], L, _, _ => by simp [unionL]
  | p :: l, L, h, hn => by
    obtain ⟨h1, h2⟩ := List.nodup_cons.1 hn
    have e : keys (add1 p L) = keys L ++ [p] := by rw [add1_of_not (h p (List.mem_cons_self ..))]; simp [keys]
    unfold unionL
    rw [keys_union_nodup l (add1 p L) (fun x hx => ?_) h2, e]
    · simp
    · rw [e]
      intro hm
      rcases List.mem_append.1 hm with hm | hm
      · exact h x (List.mem_cons_of_mem _ hx) hm
      · rw [List.mem_singleton.1 hm] at hx; exact h1 hx
theorem dedup_nodup {xs : List Pid} (h : xs.Nodup) : dedup xs = xs := by
  unfold dedup; rw [keys_union_nodup xs [] (by simp [keys]) h]; simp [keys]
theorem sortL_pairwise (xs : List Pid) : (sortL xs).Pairwise fun x y => (!(ahead y x)) = true :=
  List.pairwise_mergeSort (fun a b c h1 h2 => by simp [ahead] at *; omega) (fun a b => by simp [ahead]; omega) xs
theorem sortL_perm_self (xs : List Pid) : (sortL xs).Perm xs := List.mergeSort_perm _ _
theorem mem_sortL {p : Pid} {xs : List Pid} : p ∈ sortL xs ↔ p ∈ xs := (sortL_perm_self xs).mem_iff
theorem sortL_perm {xs ys : List Pid} (h : xs.Perm ys) (hok : ∀ p ∈ xs, ok p) : sortL xs = sortL ys := by
  refine List.Perm.eq_of_pairwise (le := fun x y => (!(ahead y x)) = true) ?_ (sortL_pairwise _) (sortL_pairwise _) ((sortL_perm_self xs).trans (h.trans (sortL_perm_self ys).symm))
  intro a b ha hb h1 h2
  simp [ahead] at h1 h2
  exact numOf_inj (hok a (mem_sortL.1 ha)) (hok b (h.mem_iff.2 (mem_sortL.1 hb))) (by omega)
theorem sortP_nodup {xs : List Pid} (h : xs.Nodup) : sortP xs = sortL xs := by unfold sortP; rw [dedup_nodup h]

theorem OwnP.mono {w : World} {b b' : Nat} {v : Value} {xs : List Pid} (h : OwnP w b v xs) (hb : b' ≤ b) : OwnP w b' v xs := by
  refine ⟨h.1, ?_⟩
  rcases h.2 with hn | ⟨g, cap, cur, rfl, hbb, rest⟩
  · exact .inl hn
  · exact .inr ⟨g, cap, cur, rfl, Nat.le_trans hb hbb, rest⟩
theorem RangeIs.left_eq {w : World} {r t : Nat} {α β : Type} {ke : α → Value} {ve : β → Value} {L left : List (α × β)} (h : RangeIs w r t ke ve L left) : w.rangeLeft r t = left.length := by
  obtain ⟨es, clock, since, seen, h1, _, _, h4, _, _, h7⟩ := h
  have := congrArg List.length h7
  simp only [List.length_map] at this
  unfold World.rangeLeft
  rw [h1, h4]
  unfold leftOf
  rw [← this]
  show (Array.filter (fun e => !seen.contains e.born) es).size = _
  rw [← Array.length_toList, Array.toList_filter]
theorem But.below' {r B : Nat} {w w' w0 : World} (h : Below B w0 w) (hb : But r w w') (hr : B ≤ r) : Below B w0 w' := h.trans (hb.below hr)
theorem OwnP.butT {w w' : World} {base t : Nat} {v : Value} {xs : List Pid} (h : OwnP w base v xs) (hb : But t w w') (ht : some t ≠ v.ownBlock) : OwnP w' base v xs := by
  refine ⟨h.1, ?_⟩
  rcases h.2 with hn | ⟨g, cap, cur, rfl, hbb, hgg, rest⟩
  · exact .inl hn
  · exact .inr ⟨g, cap, cur, rfl, hbb, (hb.block g (fun e => ht (by simp [Value.ownBlock, e]))).trans hgg, rest⟩
theorem OwnP.ne_iter {w : World} {base : Nat} {v : Value} {xs : List Pid} (h : OwnP w base v xs) {r t : Nat} {α β : Type} {ke : α → Value} {ve : β → Value} {L left : List (α × β)} (hr : RangeIs w r t ke ve L left) : some t ≠ v.ownBlock := by
  obtain ⟨es, clock, since, seen, _, _, _, h4, _⟩ := hr
  rcases h.2 with ⟨rfl, _⟩ | ⟨g, cap, cur, rfl, hbb, hgg, rest⟩
  · simp [Value.ownBlock]
  · simp only [Value.ownBlock, ne_eq, Option.some.injEq]
    intro e; subst e; rw [h4] at hgg; cases hgg
theorem RangeIs.grown {w w' : World} {r t : Nat} {α β : Type} [DecidableEq α] {ke : α → Value} {ve : β → Value} {L left : List (α × β)} (hR : RangeIs w r t ke ve L left) {base : Nat} {v : Value} {xs : List Pid} (h : OwnP w base v xs) (hg : w.grownBy w' v.ownBlock) : RangeIs w' r t ke ve L left := by
  refine hR.same (hg.block r hR.map.lt ?_) (hg.block t hR.lt (h.ne_iter hR))
  obtain ⟨es, clock, since, seen, h1, _⟩ := hR
  exact h.ne_map h1
theorem RangeIs.alloc {w : World} {r t : Nat} {α β : Type} [DecidableEq α] {ke : α → Value} {ve : β → Value} {L left : List (α × β)} (hR : RangeIs w r t ke ve L left) (o : Obj) : RangeIs (w.alloc o) r t ke ve L left := hR.ext ((Below.refl _ _).alloc (Nat.le_refl _) _)

/-! ### the set's methods -/
set_option maxRecDepth 100000 in
set_option maxHeartbeats 1600000 in
theorem list_any (s r : Nat) (L : List (Pid × Unit)) (w : World) (hS : SetIs w s r L) (hnd : (keys L).Nodup) (hok : ∀ p ∈ keys L, ok p) (hn : L.length ≤ 549755813888) :
   Calls Try.prog 244 #[.pointer (some ⟨s, 0, none⟩)] w fun e w' => ∃ v, e = .returned v ∧ OwnP w' w.heap.size v (sortL (keys L)) ∧ Below w.heap.size w w' := by
  have h0 := hS.box
  have hM := hS.map
  have HND := hid hnd
  have HOK := hid hok
  clear hnd hok
  go_enter Try.func244, Try.ntmps244
  go_wp2_with (at_range; refine wpList_range_is hM Try.underlying225 rfl rfl rfl ?_; intro w0 hR0 hb0)
  go_frame
  have hs0 := hb0.size
  have ht0 := hR0.lt
  go_loopw [3] (fun v wr => ∃ (got : List Pid) (left : List (Pid × Unit)), RangeIs wr r w.heap.size pidV eU L left ∧ OwnP wr w.heap.size v got ∧ Hid ((got ++ keys left).Perm (keys L)) ∧ got.length + left.length = L.length ∧ Below w.heap.size w wr ∧ w.heap.size < wr.heap.size) (fun _ wr => wr.rangeLeft r w.heap.size)
  case atStart => exact ⟨[], L, hR0, OwnP.nil _ _, (show ([] ++ keys L).Perm (keys L) from List.Perm.refl _), by simp, hb0, ht0⟩
  case round =>
    obtain ⟨got, left, hR, hown, hP, hlen, hb, hlt⟩ := hrel
    have HLEN := hid hlen
    have hgl : got.length ≤ L.length := by omega
    have hlm := hR.left_eq
    have HLM := hid hlm
    clear hlen hlm
    go_wp2_with (at_next; refine wpList_next_is hR rfl rfl rfl ?_ ?_)
    · intro hl
      have hgp : got.Perm (keys L) := by have := hP.out; rw [hl.out] at this; simpa [keys] using this
      have hgn : got.Nodup := hgp.symm.nodup HND.out
      have hgo : ∀ p ∈ got, ok p := fun p hp => HOK.out p (hgp.mem_iff.1 hp)
      have hsq : sortP got = sortL (keys L) := by rw [sortP_nodup hgn]; exact sortL_perm hgp hgo
      have HSQ := hid hsq
      have HGO := hid hgo
      obtain ⟨a, c, rfl, hrow, -⟩ := hown.row
      clear hgp hgn hsq hgo
      go_wp2_with (go_at_call 160; refine (sort_any a c got _ (by omega) hrow HGO.out).mono ?_; rintro e w3 ⟨v, rfl, hown3, hb3⟩)
      go_ret
      exact ⟨_, rfl, by rw [← HSQ.out]; exact hown3.mono (by omega), hb.trans (hb3.mono (by omega))⟩
    · intro x y u0 s1 s2 w1 hl hR1 hbut hen
      have hown1 := hown.butT hbut (hown.ne_iter hR)
      have HSZ := hid hbut.size
      have hone : PidRow ((w1.alloc (.cells #[.int .u16 x, .int .u32 y] 26)).alloc (.cells #[.int .u16 x, .int .u32 y] 26)) (some ⟨w1.heap.size + 1, 0, none⟩) [(x, y)] := PidRow.one' _ (by simp) x y
      go_wp2_with (at_builtin; refine wpList_appendP ((hown1.alloc _).alloc _) hone ?cb ?cz rfl rfl rfl rfl ?_; rotate_right; intro v4 w4 hown4 hg4 hnil4)
      case cb => simp; omega
      case cz => have := HSZ.out; simp; omega
      have hsz1 := HSZ.out
      have hB4 : Below w.heap.size w w4 := (((But.below' hb hbut (Nat.le_refl _)).alloc (by omega) _).alloc (by simp; omega) _).grown hg4 (by simp; omega) (fun g hg => (World.ownsRow.lt hown g hg).1)
      have hR4 := ((hR1.alloc (.cells #[.int .u16 x, .int .u32 y] 26)).alloc (.cells #[.int .u16 x, .int .u32 y] 26)).grown ((hown1.alloc _).alloc _) hg4
      have hlt4 := hR4.lt
      have hlm4 := hR4.left_eq
      have HLM4 := hid hlm4
      have hlq : left.length = s1.length + 1 + s2.length := by rw [hl.out]; simp; omega
      clear hlm4
      go_roundw
      case rel =>
        refine ⟨got ++ [(x, y)], s1 ++ s2, hR4, hown4, hid ?_, by have := HLEN.out; simp; omega, hB4, hlt4⟩
        refine List.Perm.trans ?_ hP.out
        rw [hl.out]
        simp only [keys, List.map_append, List.map_cons, List.append_assoc, List.cons_append, List.nil_append]
        refine List.Perm.append_left _ ?_
        exact List.perm_middle.symm
      case measure => rw [HLM4.out, HLM.out]; simp; omega
end Go.Proofs.Ytbpfhclcjedkcaa

namespace Go.Proofs.Ytbpfhclcjedkcaa
open Go.RowKit

set_option maxRecDepth 100000 in
set_option maxHeartbeats 1600000 in
theorem refLeaf_any (V : View) (am al ad : Option Addr) (cm cl cd : Nat) (x y : Int) (w : World) (hV : ViewR w am al ad V) :
   Calls Try.prog 81 #[.agg #[.int .u64 V.id, .slice am V.ms.length cm, .slice al V.ls.length cl, .slice ad V.ds.length cd], .agg #[.int .u16 x, .int .u32 y]] w fun e w' => e = .returned (.int .i64 (leafIx V.ls (x, y))) ∧ Below w.heap.size w w' := by
  have hB2 : Below w.heap.size w ((w.alloc (.cells #[.int .u64 V.id, .slice am V.ms.length cm, .slice al V.ls.length cl, .slice ad V.ds.length cd] 33)).alloc (.cells #[.int .u16 x, .int .u32 y] 26)) := ((Below.refl _ _).alloc (Nat.le_refl _) _).alloc (by simp) _
  have hV2 := hV.ext hB2
  have hz : w.heap.size ≤ ((w.alloc (.cells #[.int .u64 V.id, .slice am V.ms.length cm, .slice al V.ls.length cl, .slice ad V.ds.length cd] 33)).alloc (.cells #[.int .u16 x, .int .u32 y] 26)).heap.size := by simp; omega
  have k0 : ((w.alloc (.cells #[.int .u64 V.id, .slice am V.ms.length cm, .slice al V.ls.length cl, .slice ad V.ds.length cd] 33)).alloc (.cells #[.int .u16 x, .int .u32 y] 26)).cell? ⟨w.heap.size + 1, 0, none⟩ = some (.int .u16 x) := by simp
  have k1 : ((w.alloc (.cells #[.int .u64 V.id, .slice am V.ms.length cm, .slice al V.ls.length cl, .slice ad V.ds.length cd] 33)).alloc (.cells #[.int .u16 x, .int .u32 y] 26)).cell? ⟨w.heap.size + 1, 1, none⟩ = some (.int .u32 y) := by simp
  have k2 : ((w.alloc (.cells #[.int .u64 V.id, .slice am V.ms.length cm, .slice al V.ls.length cl, .slice ad V.ds.length cd] 33)).alloc (.cells #[.int .u16 x, .int .u32 y] 26)).cell? ⟨w.heap.size, 2, none⟩ = some (.slice al V.ls.length cl) := by simp
  go_enter Try.func81, Try.ntmps81
  go_wp2
  revert hB2 hV2 hz k0 k1 k2
  generalize (w.alloc (.cells #[.int .u64 V.id, .slice am V.ms.length cm, .slice al V.ls.length cl, .slice ad V.ds.length cd] 33)).alloc (.cells #[.int .u16 x, .int .u32 y] 26) = w2
  intro hB2 hV2 hz k0 k1 k2
  have hll := hV.ll
  go_loopw [4, 5] (fun r i wr => r = .int .i64 0 ∧ ∃ k : Nat, k ≤ V.ls.length ∧ i = .int .i64 k ∧ Hid (leafIx V.ls (x, y) = leafFrom (x, y) (V.ls.drop k) k) ∧ Below w2.heap.size w2 wr) (fun _ i _ => V.ls.length - (intOf i).toNat)
  case atStart => exact ⟨rfl, 0, Nat.zero_le _, rfl, rfl, Below.refl _ _⟩
  case round =>
    obtain ⟨rfl, k, hk, rfl, ha, hb⟩ := hrel
    have f0 := cell_to k0 hb
    have f1 := cell_to k1 hb
    have f2 := cell_to k2 hb
    by_cases hlt : k < V.ls.length
    · obtain ⟨b, off, ai, ci, l, rfl, hx, d1, d2⟩ := hV2.ls.at hb rfl hlt
      have hln : l.length ≤ 70368744177664 := hV.le l (by rw [hx]; exact List.getElem_mem _)
      obtain ⟨A, hA⟩ : ∃ A, atIx l (x, y) = A := ⟨_, rfl⟩
      have hmem := atIx_nonneg (p := (x, y)) (xs := l)
      rw [hA] at hmem
      have hdr := leafFrom_drop hlt (x, y)
      rw [← hx] at hdr
      have HA := hid hA
      have HD := hid hdr
      have g0 := cell_extw f0
      have g1 := cell_extw f1
      have g2 := cell_extw f2
      have g3 := cell_extw d1
      clear hA hx hdr
      by_cases h0 : 0 ≤ A
      · have h0' : decide (0 ≤ A) = true := by simpa using h0
        have HM : Hid ((x, y) ∈ l) := by rw [h0'] at hmem; exact hid (of_decide_eq_true hmem.symm)
        clear hmem
        go_wp2
        clear f0 f1 f2 d1
        refine wp_region_ext (w := wr) (Below.refl _ _) (by kernel_rfl) (by kernel_rfl) ?_
        repeat (go_big_quiet_step (exact at_ext d2 hln HA))
        refine wpQuiet_nil ?_
        rintro w9 ⟨⟨_, hb9⟩, rfl⟩
        go_wp2
        go_ret
        exact ⟨ret_int (by rw [ha.out, HD.out, if_pos HM.out]), hB2.trans ((hb.trans (hb9.mono hb.size)).mono hz)⟩
      · have h0' : decide (0 ≤ A) = false := by simpa using h0
        have HM : Hid (¬ (x, y) ∈ l) := by rw [h0'] at hmem; exact hid (of_decide_eq_false hmem.symm)
        clear hmem
        go_wp2
        clear f0 f1 f2 d1
        refine wp_region_ext (w := wr) (Below.refl _ _) (by kernel_rfl) (by kernel_rfl) ?_
        repeat (go_big_quiet_step (exact at_ext d2 hln HA))
        refine wpQuiet_nil ?_
        rintro w9 ⟨⟨_, hb9⟩, rfl⟩
        go_wp2
        go_roundw
        case rel => exact ⟨rfl, k + 1, by omega, by go_num, (ha.out.trans (by rw [HD.out, if_neg HM.out]) : _), hb.trans (hb9.mono hb.size)⟩
        case measure => simp [intOf]; omega
    · go_wp2
      go_ret
      exact ⟨ret_int (by rw [ha.out, leafFrom_end (by omega)]), hB2.trans (hb.mono hz)⟩
end Go.Proofs.Ytbpfhclcjedkcaa

namespace Go.Proofs.Ytbpfhclcjedkcaa
open Go.RowKit
theorem isSome_union {p : Pid} {l : List Pid} : (look p (unionL [] l)).isSome = true ↔ p ∈ l := by
  rw [look_isSome, mem_unionL]; simp [keys]

end Go.Proofs.Ytbpfhclcjedkcaa

