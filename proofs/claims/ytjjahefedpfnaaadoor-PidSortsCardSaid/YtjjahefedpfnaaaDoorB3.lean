import Derived.Test.YtjjahefedpfnaaaDoorB1
namespace Go.Proofs.YtjjahefedpfnaaaDoor
open Go.RowKit
theorem del_eq {α β : Type} [DecidableEq α] {x : α} : ∀ {L : List (α × β)} {i j : Nat} {v : β}, lookI x L i = some (j, v) → del x L = L.eraseIdx (j - i)
  | [], _, _, _, h => by simp [lookI] at h
  | p :: l, i, j, v, h => by
    simp only [lookI] at h
    split at h
    · next hx =>
      simp only [Option.some.injEq, Prod.mk.injEq] at h
      obtain ⟨rfl, _⟩ := h
      simp [del, hx]
    · next hx =>
      have h1 := lookI_some h
      have e : j - i = (j - (i + 1)) + 1 := by omega
      rw [e]
      simp only [del, if_neg hx, List.eraseIdx_cons_succ, del_eq h]
theorem del_none {α β : Type} [DecidableEq α] {x : α} : ∀ {L : List (α × β)} {i : Nat}, lookI x L i = none → del x L = L
  | [], _, _ => rfl
  | p :: l, i, h => by
    simp only [lookI] at h
    split at h
    · simp at h
    · next hx => simp [del, if_neg hx, del_none h]
theorem map_eraseIdx' {α β : Type} (f : α → β) : ∀ (l : List α) (j : Nat), (l.eraseIdx j).map f = (l.map f).eraseIdx j
  | [], _ => rfl
  | _ :: _, 0 => rfl
  | a :: l, j + 1 => by simp [map_eraseIdx' f l j]
theorem MapIs.delete {α β : Type} [DecidableEq α] {ke : α → Value} {ve : β → Value} {P : Program} {K : TypeId} {w : World} {r : Nat} {L : List (α × β)} (h : MapIs w r ke ve L) (kk : KeyOk P K ke) {t e : TypeId} (ht : P.underlying t = some (.map K e)) (x : α) :
    ∃ w', (∀ ty, (Builtin.delete_ #[t, K] ty #[.map (some r), ke x]).run P w = .ok (.tuple #[]) w') ∧ MapIs w' r ke ve (del x L) ∧ But r w w' := by
  obtain ⟨es, clock, hb, he, hbn⟩ := h
  have hf := find_run (w := w) kk he x
  cases hq : lookI x L 0 with
  | none =>
    rw [hq] at hf
    refine ⟨{ w with heap := w.heap.setIfInBounds r (.map es clock) }, fun ty => by simp [Builtin.delete_, run_underlying ht, MapKept.run_getObj_map hb, kk.check, hf, MapKept.run_setObj_map _ hb, Result.andThen], ⟨_, _, (MapKept.heap_set hb).1, by rw [del_none hq]; exact he, hbn⟩, But.of_set _ _ _⟩
  | some q =>
    obtain ⟨j, u⟩ := q
    rw [hq] at hf
    have hlen : es.toList.length = L.length := by simpa using congrArg List.length he
    have hj : j < es.size := by have := (lookI_some hq).2.1; simp at hlen; omega
    refine ⟨{ w with heap := w.heap.setIfInBounds r (.map (es.eraseIdxIfInBounds j) clock) }, fun ty => by simp [Builtin.delete_, run_underlying ht, MapKept.run_getObj_map hb, kk.check, hf, MapKept.run_setObj_map _ hb, Result.andThen], ⟨_, _, (MapKept.heap_set hb).1, ?_, ?_⟩, But.of_set _ _ _⟩
    · rw [del_eq hq, Nat.sub_zero]
      have : (es.eraseIdxIfInBounds j).toList = es.toList.eraseIdx j := by simp [Array.eraseIdxIfInBounds, hj, Array.toList_eraseIdx]
      rw [this, map_eraseIdx', he, map_eraseIdx']
    · have : (es.eraseIdxIfInBounds j).toList = es.toList.eraseIdx j := by simp [Array.eraseIdxIfInBounds, hj, Array.toList_eraseIdx]
      have hs : (es.toList.eraseIdx j).Sublist es.toList := List.eraseIdx_sublist _ _
      exact ⟨by rw [this]; exact hbn.1.sublist (hs.map _), fun e he' => hbn.2 e (hs.subset (by rw [← this]; exact he'))⟩
theorem del_filter {x : Pid} : ∀ {L : List (Pid × Unit)}, (keys L).Nodup → del x L = L.filter fun q => !decide (q.1 = x)
  | [], _ => rfl
  | p :: l, h => by
    obtain ⟨h1, h2⟩ := List.nodup_cons.1 h
    by_cases hx : x = p.1
    · have hall : l.filter (fun q => !decide (q.1 = x)) = l := List.filter_eq_self.2 fun q hq => by
        have : q.1 ≠ x := fun e => h1 (by show p.1 ∈ _; rw [← hx, ← e]; exact List.mem_map_of_mem (f := fun x : Pid × Unit => x.1) hq)
        simp [this]
      simp only [del, if_pos hx, List.filter_cons]
      rw [if_neg (by simp [hx]), hall]
    · simp only [del, if_neg hx, List.filter_cons]
      rw [if_pos (by simp [Ne.symm hx]), del_filter h2]

theorem SetIs.mut {F : Nat → Prop} {w w' : World} {s r : Nat} {L : List (Pid × Unit)} (h : SetIs w s r L) (hm : Mut F w w') (hs : ¬ F s) (hr : ¬ F r) : SetIs w' s r L :=
  ⟨(hm.cell (by exact h.lt) (by exact hs)).trans h.box, h.map.same (hm.block r h.map.lt hr)⟩

/-- what Keep leaves, the list having been gone through so far that 'todo' is left -/
def keepMid (L : List (Pid × Unit)) (xs todo : List Pid) : List (Pid × Unit) := L.filter fun q => decide (q.1 ∈ xs) || decide (q.1 ∈ todo)
def keepL (L : List (Pid × Unit)) (xs : List Pid) : List (Pid × Unit) := L.filter fun q => decide (q.1 ∈ xs)
theorem keepMid_all {L : List (Pid × Unit)} {xs l : List Pid} (h : ∀ p ∈ keys L, p ∈ l) : keepMid L xs l = L :=
  List.filter_eq_self.2 fun q hq => by simp [h q.1 (List.mem_map_of_mem (f := fun x : Pid × Unit => x.1) hq)]
theorem keepMid_nil (L : List (Pid × Unit)) (xs : List Pid) : keepMid L xs [] = keepL L xs := by unfold keepMid keepL; simp
theorem keepMid_in {L : List (Pid × Unit)} {xs t : List Pid} {p : Pid} (h : p ∈ xs) : keepMid L xs (p :: t) = keepMid L xs t := by
  unfold keepMid
  apply List.filter_congr
  intro q _
  by_cases hq : q.1 = p
  · simp [hq, h]
  · simp [hq]
theorem keepMid_nodup {L : List (Pid × Unit)} {xs t : List Pid} (h : (keys L).Nodup) : (keys (keepMid L xs t)).Nodup := h.sublist (List.Sublist.map _ List.filter_sublist)
theorem keepMid_out {L : List (Pid × Unit)} {xs t : List Pid} {p : Pid} (hn : (keys L).Nodup) (h : p ∉ xs) (ht : p ∉ t) : del p (keepMid L xs (p :: t)) = keepMid L xs t := by
  rw [del_filter (keepMid_nodup hn)]
  unfold keepMid
  rw [List.filter_filter]
  apply List.filter_congr
  intro q _
  by_cases hq : q.1 = p
  · simp [hq, h, ht]
  · simp [hq]
theorem keepMid_len {L : List (Pid × Unit)} {xs t : List Pid} {p : Pid} (hn : (keys L).Nodup) (h : p ∉ xs) (ht : p ∉ t) (hp : p ∈ keys L) : (keepMid L xs (p :: t)).length = (keepMid L xs t).length + 1 := by
  have hin : p ∈ keys (keepMid L xs (p :: t)) := by
    obtain ⟨q, hq, rfl⟩ := List.mem_map.1 hp
    exact List.mem_map.2 ⟨q, List.mem_filter.2 ⟨hq, by simp⟩, rfl⟩
  have hq : (look p (keepMid L xs (p :: t))).isSome = true := by rw [look_isSome]; exact hin
  rw [← keepMid_out hn h ht]
  cases hl : lookI p (keepMid L xs (p :: t)) 0 with
  | none => have := lookI_look p (keepMid L xs (p :: t)) 0; rw [hl] at this; rw [← this] at hq; simp at hq
  | some v =>
    obtain ⟨j, u⟩ := v
    have h1 := (lookI_some hl).2.1
    rw [del_eq hl, List.length_eraseIdx_of_lt h1]
    omega

end Go.Proofs.YtjjahefedpfnaaaDoor
