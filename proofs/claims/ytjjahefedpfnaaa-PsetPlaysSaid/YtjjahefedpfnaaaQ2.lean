import Derived.Test.YtjjahefedpfnaaaB10
namespace Go.Proofs.Ytjjahefedpfnaaa
open Go.RowKit
abbrev SR (L : List (Pid × Unit)) : List Pid := sortL (keys L)
/-- what is kept of a set: no key twice, all are processes, so many at most -/
structure SetOk (L : List (Pid × Unit)) (n : Nat) : Prop where
  nd : (keys L).Nodup
  ok : ∀ p ∈ keys L, ok p
  len : L.length ≤ n
theorem SetOk.ris {L : List (Pid × Unit)} {n : Nat} (h : SetOk L n) : Ris (SR L) := sortL_ris h.nd h.ok
theorem mem_SR {p : Pid} {L : List (Pid × Unit)} : p ∈ SR L ↔ p ∈ keys L := mem_sortL
theorem SR_len (L : List (Pid × Unit)) : (SR L).length = L.length := by rw [sortL_length]; simp [keys]
theorem SetOk.sok {L : List (Pid × Unit)} {n : Nat} (h : SetOk L n) : ∀ p ∈ SR L, Go.Proofs.Ytjjahefedpfnaaa.ok p := fun p hp => h.ok p (mem_SR.1 hp)
theorem mem_keys_filter {f : Pid → Bool} {p : Pid} {L : List (Pid × Unit)} : p ∈ keys (L.filter fun q => f q.1) ↔ p ∈ keys L ∧ f p = true := by
  unfold keys
  simp only [List.mem_map, List.mem_filter]
  constructor
  · rintro ⟨x, ⟨h1, h2⟩, rfl⟩; exact ⟨⟨x, h1, rfl⟩, h2⟩
  · rintro ⟨⟨x, h1, rfl⟩, h2⟩; exact ⟨x, ⟨h1, h2⟩, rfl⟩
theorem SetOk.filter {f : Pid → Bool} {L : List (Pid × Unit)} {n : Nat} (h : SetOk L n) : SetOk (L.filter fun q => f q.1) n :=
  ⟨h.nd.sublist (List.Sublist.map _ List.filter_sublist), fun p hp => h.ok p (mem_keys_filter.1 hp).1, Nat.le_trans (List.length_filter_le ..) h.len⟩
theorem SR_filter {f : Pid → Bool} {L : List (Pid × Unit)} {n : Nat} (h : SetOk L n) : (SR L).filter f = SR (L.filter fun q => f q.1) :=
  Ris.eq (h.ris.filter _) h.filter.ris fun p => by rw [List.mem_filter, mem_SR, mem_SR, mem_keys_filter]
/-! leaving -/
theorem SetOk.del {L : List (Pid × Unit)} {n : Nat} {p : Pid} (h : SetOk L n) : SetOk (del p L) n := by rw [del_filter h.nd]; exact h.filter (f := fun q => !decide (q = p))
theorem SR_del {L : List (Pid × Unit)} {n : Nat} {p : Pid} (h : SetOk L n) : withoutP (SR L) p = SR (del p L) := by
  rw [del_filter h.nd]; exact SR_filter h (f := fun q => !decide (q = p))
theorem SR_has {L : List (Pid × Unit)} {p : Pid} : decide (p ∈ SR L) = (look p L).isSome := by
  rw [Bool.eq_iff_iff]; simp [mem_SR, look_isSome]
/-! keeping -/
theorem SetOk.keep {L : List (Pid × Unit)} {n : Nat} {l : List Pid} (h : SetOk L n) : SetOk (keepL L l) n := h.filter (f := fun q => decide (q ∈ l))
theorem SR_keep {L : List (Pid × Unit)} {n : Nat} {l : List Pid} (h : SetOk L n) : commonP (SR L) l = SR (keepL L l) := SR_filter h (f := fun q => decide (q ∈ l))
/-! uniting -/
theorem SetOk.union {L : List (Pid × Unit)} {n m : Nat} {l : List Pid} (h : SetOk L n) (hl : ∀ p ∈ l, Go.Proofs.Ytjjahefedpfnaaa.ok p) (hm : l.length ≤ m) : SetOk (unionL L l) (n + m) :=
  ⟨keys_union_nd h.nd, fun p hp => (mem_keys_union.1 hp).elim (h.ok p) (hl p), by have := (unionL_len l L).1; have := h.len; omega⟩
theorem SR_union {L : List (Pid × Unit)} {n : Nat} {l : List Pid} (h : SetOk L n) (hl : ∀ p ∈ l, Go.Proofs.Ytjjahefedpfnaaa.ok p) : sortR [] (SR L ++ l) = SR (unionL L l) := by
  refine Ris.eq (sortR_ris (fun p hp => ?_) (by simp) List.Pairwise.nil) (h.union hl (Nat.le_refl _)).ris fun p => ?_
  · rcases List.mem_append.1 hp with hp | hp
    · exact h.sok p hp
    · exact hl p hp
  · rw [mem_sortR, List.mem_append, mem_SR, mem_SR, mem_keys_union]; simp
theorem unionN_len : ∀ (l : List Pid) (L : List (Pid × Unit)), (unionL L l).length = L.length + unionN L l
  | [], L => by simp [unionL, unionN]
  | p :: l, L => by
    unfold unionL unionN
    rw [unionN_len l]
    by_cases hp : p ∈ keys L
    · rw [add1_of_mem hp, if_pos (look_isSome.2 hp)]; omega
    · rw [add1_of_not hp, if_neg (fun e => hp (look_isSome.1 e))]; simp; omega
/-! adding -/
theorem add_union (L : List (Pid × Unit)) (p : Pid) : unionL L [p] = add1 p L := rfl
theorem add_len {L : List (Pid × Unit)} {p : Pid} : decide (L.length < (add1 p L).length) = !(look p L).isSome := by
  by_cases hp : p ∈ keys L
  · rw [add1_of_mem hp, look_isSome.2 hp]; simp
  · have : (look p L).isSome = false := by rw [Bool.eq_false_iff]; exact fun e => hp (look_isSome.1 e)
    rw [add1_of_not hp, this]; simp
theorem SetOk.start {xs : List Pid} {n : Nat} (hok : ∀ p ∈ xs, Go.Proofs.Ytjjahefedpfnaaa.ok p) (hn : xs.length ≤ n) : SetOk (unionL [] xs) n := by
  have := SetOk.union (L := []) (n := 0) (l := xs) (m := n) ⟨by simp [keys], by simp [keys], by simp⟩ hok hn
  simpa using this
theorem SR_start {xs : List Pid} (hok : ∀ p ∈ xs, ok p) : sortR [] xs = SR (unionL [] xs) := sortR_eq hok
theorem SetOk.mono {L : List (Pid × Unit)} {n m : Nat} (h : SetOk L n) (hm : n ≤ m) : SetOk L m := ⟨h.nd, h.ok, Nat.le_trans h.len hm⟩
end Go.Proofs.Ytjjahefedpfnaaa
