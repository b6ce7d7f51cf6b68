import Derived.Test.YtjjahefedpfnaaaT2
import Derived.Test.YtjjahefedpfnaaaM1
import Derived.Test.YtjjahefedpfnaaaS1
namespace Go.Proofs.Ytjjahefedpfnaaa
open Go.RowKit

/-! ### plain: sorting -/
theorem keys_union_nodup : ∀ (xs : List Pid) (L : List (Pid × Unit)), (∀ x ∈ xs, x ∉ keys L) → xs.Nodup → keys (unionL L xs) = keys L ++ xs
  | [], L, _, _ => by simp [unionL]
  | p :: l, L, h, hn => by
    obtain ⟨h1, h2⟩ := List.nodup_cons.1 hn
    have e : keys (add1 p L) = keys L ++ [p] := by rw [add1_of_not (h p (List.mem_cons_self ..))]; simp [keys]
    unfold unionL
    rw [keys_union_nodup l (add1 p L) (fun x hx => ?_) h2, e]
    · simp
    · rw [e]
      intro hm
      rcases List.mem_append.1 hm with hm | hm
      · exact h x (List.mem_cons_of_mem _ hx) hm
      · rw [List.mem_singleton.1 hm] at hx; exact h1 hx
theorem dedup_nodup {xs : List Pid} (h : xs.Nodup) : dedup xs = xs := by
  unfold dedup; rw [keys_union_nodup xs [] (by simp [keys]) h]; simp [keys]
theorem union_keys_nodup : ∀ (xs : List Pid) (L : List (Pid × Unit)), (keys L).Nodup → (keys (unionL L xs)).Nodup
  | [], L, h => h
  | p :: l, L, h => by
    unfold unionL
    refine union_keys_nodup l _ ?_
    by_cases hp : p ∈ keys L
    · rw [add1_of_mem hp]; exact h
    · rw [add1_of_not hp]
      simp only [keys, List.map_append, List.map_cons, List.map_nil]
      rw [List.nodup_append]
      refine ⟨h, by simp, ?_⟩
      intro a ha b hb e
      simp at hb
      subst e; subst hb; exact hp ha
theorem dedup_is_nodup (xs : List Pid) : (dedup xs).Nodup := union_keys_nodup xs [] (by simp [keys])
theorem mem_dedup {p : Pid} {xs : List Pid} : p ∈ dedup xs ↔ p ∈ xs := by
  unfold dedup; rw [mem_unionL]; simp [keys]
theorem sortL_pairwise (xs : List Pid) : (sortL xs).Pairwise fun x y => (!(ahead y x)) = true :=
  List.pairwise_mergeSort (fun a b c h1 h2 => by simp [ahead] at *; omega) (fun a b => by simp [ahead]; omega) xs
theorem sortL_perm_self (xs : List Pid) : (sortL xs).Perm xs := List.mergeSort_perm _ _
theorem mem_sortL {p : Pid} {xs : List Pid} : p ∈ sortL xs ↔ p ∈ xs := (sortL_perm_self xs).mem_iff
theorem sortL_perm {xs ys : List Pid} (h : xs.Perm ys) (hok : ∀ p ∈ xs, ok p) : sortL xs = sortL ys := by
  refine List.Perm.eq_of_pairwise (le := fun x y => (!(ahead y x)) = true) ?_ (sortL_pairwise _) (sortL_pairwise _) ((sortL_perm_self xs).trans (h.trans (sortL_perm_self ys).symm))
  intro a b ha hb h1 h2
  simp [ahead] at h1 h2
  exact numOf_inj (hok a (mem_sortL.1 ha)) (hok b (h.mem_iff.2 (mem_sortL.1 hb))) (by omega)
theorem sortP_nodup {xs : List Pid} (h : xs.Nodup) : sortP xs = sortL xs := by unfold sortP; rw [dedup_nodup h]

theorem OwnP.mono {w : World} {b b' : Nat} {v : Value} {xs : List Pid} (h : OwnP w b v xs) (hb : b' ≤ b) : OwnP w b' v xs := by
  refine ⟨h.1, ?_⟩
  rcases h.2 with hn | ⟨g, cap, cur, rfl, hbb, rest⟩
  · exact .inl hn
  · exact .inr ⟨g, cap, cur, rfl, Nat.le_trans hb hbb, rest⟩
theorem RangeIs.left_eq {w : World} {r t : Nat} {α β : Type} {ke : α → Value} {ve : β → Value} {L left : List (α × β)} (h : RangeIs w r t ke ve L left) : w.rangeLeft r t = left.length := by
  obtain ⟨es, clock, since, seen, h1, _, _, h4, _, _, h7⟩ := h
  have := congrArg List.length h7
  simp only [List.length_map] at this
  unfold World.rangeLeft
  rw [h1, h4]
  unfold leftOf
  rw [← this]
  show (Array.filter (fun e => !seen.contains e.born) es).size = _
  rw [← Array.length_toList, Array.toList_filter]
theorem But.below' {r B : Nat} {w w' w0 : World} (h : Below B w0 w) (hb : But r w w') (hr : B ≤ r) : Below B w0 w' := h.trans (hb.below hr)
theorem OwnP.butT {w w' : World} {base t : Nat} {v : Value} {xs : List Pid} (h : OwnP w base v xs) (hb : But t w w') (ht : some t ≠ v.ownBlock) : OwnP w' base v xs := by
  refine ⟨h.1, ?_⟩
  rcases h.2 with hn | ⟨g, cap, cur, rfl, hbb, hgg, rest⟩
  · exact .inl hn
  · exact .inr ⟨g, cap, cur, rfl, hbb, (hb.block g (fun e => ht (by simp [Value.ownBlock, e]))).trans hgg, rest⟩
theorem OwnP.ne_iter {w : World} {base : Nat} {v : Value} {xs : List Pid} (h : OwnP w base v xs) {r t : Nat} {α β : Type} {ke : α → Value} {ve : β → Value} {L left : List (α × β)} (hr : RangeIs w r t ke ve L left) : some t ≠ v.ownBlock := by
  obtain ⟨es, clock, since, seen, _, _, _, h4, _⟩ := hr
  rcases h.2 with ⟨rfl, _⟩ | ⟨g, cap, cur, rfl, hbb, hgg, rest⟩
  · simp [Value.ownBlock]
  · simp only [Value.ownBlock, ne_eq, Option.some.injEq]
    intro e; subst e; rw [h4] at hgg; cases hgg
theorem RangeIs.grown {w w' : World} {r t : Nat} {α β : Type} [DecidableEq α] {ke : α → Value} {ve : β → Value} {L left : List (α × β)} (hR : RangeIs w r t ke ve L left) {base : Nat} {v : Value} {xs : List Pid} (h : OwnP w base v xs) (hg : w.grownBy w' v.ownBlock) : RangeIs w' r t ke ve L left := by
  refine hR.same (hg.block r hR.map.lt ?_) (hg.block t hR.lt (h.ne_iter hR))
  obtain ⟨es, clock, since, seen, h1, _⟩ := hR
  exact h.ne_map h1
theorem RangeIs.alloc {w : World} {r t : Nat} {α β : Type} [DecidableEq α] {ke : α → Value} {ve : β → Value} {L left : List (α × β)} (hR : RangeIs w r t ke ve L left) (o : Obj) : RangeIs (w.alloc o) r t ke ve L left := hR.ext ((Below.refl _ _).alloc (Nat.le_refl _) _)

/-! ### the set's methods -/
set_option maxRecDepth 100000 in
set_option maxHeartbeats 1600000 in
theorem list_any (s r : Nat) (L : List (Pid × Unit)) (w : World) (hS : SetIs w s r L) (hnd : (keys L).Nodup) (hok : ∀ p ∈ keys L, ok p) (hn : L.length ≤ 549755813888) :
   Calls Try.prog 43 #[.pointer (some ⟨s, 0, none⟩)] w fun e w' => ∃ v, e = .returned v ∧ OwnP w' w.heap.size v (sortL (keys L)) ∧ Below w.heap.size w w' := by
  have h0 := hS.box
  have hM := hS.map
  have HND := hid hnd
  have HOK := hid hok
  clear hnd hok
  go_enter Try.func43, Try.ntmps43
  go_wp2_with (at_range; refine wpList_range_is hM Try.underlying91 rfl rfl rfl ?_; intro w0 hR0 hb0)
  go_frame
  have hs0 := hb0.size
  have ht0 := hR0.lt
  go_loopw [3] (fun v wr => ∃ (got : List Pid) (left : List (Pid × Unit)), RangeIs wr r w.heap.size pidV eU L left ∧ OwnP wr w.heap.size v got ∧ Hid ((got ++ keys left).Perm (keys L)) ∧ got.length + left.length = L.length ∧ Below w.heap.size w wr ∧ w.heap.size < wr.heap.size) (fun _ wr => wr.rangeLeft r w.heap.size)
  case atStart => exact ⟨[], L, hR0, OwnP.nil _ _, (show ([] ++ keys L).Perm (keys L) from List.Perm.refl _), by simp, hb0, ht0⟩
  case round =>
    obtain ⟨got, left, hR, hown, hP, hlen, hb, hlt⟩ := hrel
    have HLEN := hid hlen
    have hgl : got.length ≤ L.length := by omega
    have hlm := hR.left_eq
    have HLM := hid hlm
    clear hlen hlm
    go_wp2_with (at_next; refine wpList_next_is hR rfl rfl rfl ?_ ?_)
    · intro hl
      have hgp : got.Perm (keys L) := by have := hP.out; rw [hl.out] at this; simpa [keys] using this
      have hgn : got.Nodup := hgp.symm.nodup HND.out
      have hgo : ∀ p ∈ got, ok p := fun p hp => HOK.out p (hgp.mem_iff.1 hp)
      have hsq : sortP got = sortL (keys L) := by rw [sortP_nodup hgn]; exact sortL_perm hgp hgo
      have HSQ := hid hsq
      have HGO := hid hgo
      obtain ⟨a, c, rfl, hrow, -⟩ := hown.row
      clear hgp hgn hsq hgo
      go_wp2_with (go_at_call 68; refine (sort_any a c got _ (by omega) hrow HGO.out).mono ?_; rintro e w3 ⟨v, rfl, hown3, hb3⟩)
      go_ret
      exact ⟨_, rfl, by rw [← HSQ.out]; exact hown3.mono (by omega), hb.trans (hb3.mono (by omega))⟩
    · intro x y u0 s1 s2 w1 hl hR1 hbut hen
      have hown1 := hown.butT hbut (hown.ne_iter hR)
      have HSZ := hid hbut.size
      have hone : PidRow ((w1.alloc (.cells #[.int .u16 x, .int .u32 y] 32)).alloc (.cells #[.int .u16 x, .int .u32 y] 32)) (some ⟨w1.heap.size + 1, 0, none⟩) [(x, y)] := PidRow.one' _ (by simp) x y
      go_wp2_with (at_builtin; refine wpList_appendP ((hown1.alloc _).alloc _) hone ?cb ?cz rfl rfl rfl rfl ?_; rotate_right; intro v4 w4 hown4 hg4 hnil4)
      case cb => simp; omega
      case cz => have := HSZ.out; simp; omega
      have hsz1 := HSZ.out
      have hB4 : Below w.heap.size w w4 := (((But.below' hb hbut (Nat.le_refl _)).alloc (by omega) _).alloc (by simp; omega) _).grown hg4 (by simp; omega) (fun g hg => (World.ownsRow.lt hown g hg).1)
      have hR4 := ((hR1.alloc (.cells #[.int .u16 x, .int .u32 y] 32)).alloc (.cells #[.int .u16 x, .int .u32 y] 32)).grown ((hown1.alloc _).alloc _) hg4
      have hlt4 := hR4.lt
      have hlm4 := hR4.left_eq
      have HLM4 := hid hlm4
      have hlq : left.length = s1.length + 1 + s2.length := by rw [hl.out]; simp; omega
      clear hlm4
      go_roundw
      case rel =>
        refine ⟨got ++ [(x, y)], s1 ++ s2, hR4, hown4, hid ?_, by have := HLEN.out; simp; omega, hB4, hlt4⟩
        refine List.Perm.trans ?_ hP.out
        rw [hl.out]
        simp only [keys, List.map_append, List.map_cons, List.append_assoc, List.cons_append, List.nil_append]
        refine List.Perm.append_left _ ?_
        exact List.perm_middle.symm
      case measure => rw [HLM4.out, HLM.out]; simp; omega
end Go.Proofs.Ytjjahefedpfnaaa
