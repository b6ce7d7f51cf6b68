import Derived.Test.YtjjahefedpfnaaaB5
namespace Go.Proofs.Ytjjahefedpfnaaa
/-! ### plain: maps of ages -/
theorem mem_keys_ins {p q : Pid} {v : Int} {L : List (Pid × Int)} : p ∈ keys (ins q v L) ↔ p = q ∨ p ∈ keys L := by
  rw [← look_isSome, look_ins, ← look_isSome]
  by_cases h : p = q <;> simp [h]
theorem ins_keys {q : Pid} {v : Int} : ∀ {L : List (Pid × Int)}, keys (ins q v L) = if q ∈ keys L then keys L else keys L ++ [q]
  | [] => by simp [ins, keys]
  | x :: l => by
    by_cases hq : q = x.1
    · simp [ins, hq, keys]
    · simp only [ins, if_neg hq]
      have : keys (x :: ins q v l) = x.1 :: keys (ins q v l) := rfl
      rw [this, ins_keys (L := l)]
      have e : keys (x :: l) = x.1 :: keys l := rfl
      rw [e]
      by_cases h : q ∈ keys l
      · rw [if_pos h, if_pos (List.mem_cons_of_mem _ h)]
      · rw [if_neg h, if_neg (by simp [hq, h])]; rfl
theorem ins_nodup {q : Pid} {v : Int} {L : List (Pid × Int)} (h : (keys L).Nodup) : (keys (ins q v L)).Nodup := by
  rw [ins_keys]
  split
  · exact h
  · next hq =>
    rw [List.nodup_append]
    refine ⟨h, by simp, ?_⟩
    intro a ha b hb e
    simp at hb
    subst e; subst hb; exact hq ha
theorem mem_ins {q : Pid} {v : Int} {z : Pid × Int} : ∀ {L : List (Pid × Int)}, z ∈ ins q v L → z = (q, v) ∨ z ∈ L
  | [], h => by simp [ins] at h; exact .inl h
  | x :: l, h => by
    by_cases hq : q = x.1
    · simp only [ins, if_pos hq] at h
      rcases List.mem_cons.1 h with h | h
      · exact .inl h
      · exact .inr (List.mem_cons_of_mem _ h)
    · simp only [ins, if_neg hq] at h
      rcases List.mem_cons.1 h with h | h
      · exact .inr (by rw [h]; exact List.mem_cons_self ..)
      · rcases mem_ins h with h | h
        · exact .inl h
        · exact .inr (List.mem_cons_of_mem _ h)
theorem ins_length {q : Pid} {v : Int} : ∀ {L : List (Pid × Int)}, (ins q v L).length ≤ L.length + 1
  | [] => by simp [ins]
  | x :: l => by
    by_cases hq : q = x.1
    · simp [ins, hq]
    · simp only [ins, if_neg hq, List.length_cons]
      have := ins_length (q := q) (v := v) (L := l)
      omega
theorem keys_tick (T : Int) (L : List (Pid × Int)) : keys (tickL T L) = keys L := by
  unfold keys tickL; rw [List.map_map]; rfl
theorem look_tick {p : Pid} {T : Int} : ∀ {L : List (Pid × Int)}, look p (tickL T L) = (look p L).map fun n => min (n + 1) T
  | [] => rfl
  | x :: l => by
    simp only [tickL, List.map_cons, look]
    split
    · rfl
    · exact look_tick (L := l)
theorem look_follow {p : Pid} {L : List (Pid × Int)} : ∀ {xs : List Pid} {M : List (Pid × Int)}, look p (followL L M xs) = if p ∈ xs then some ((look p L).getD 0) else look p M
  | [], M => by simp [followL]
  | q :: l, M => by
    simp only [followL]
    rw [look_follow (xs := l), look_ins]
    by_cases h1 : p ∈ l
    · rw [if_pos h1, if_pos (List.mem_cons_of_mem _ h1)]
    · rw [if_neg h1]
      by_cases h2 : p = q
      · subst h2; simp
      · rw [if_neg h2, if_neg (by simp [h1, h2])]
theorem follow_nodup {L : List (Pid × Int)} : ∀ {xs : List Pid} {M : List (Pid × Int)}, (keys M).Nodup → (keys (followL L M xs)).Nodup
  | [], _, h => h
  | q :: l, M, h => by unfold followL; exact follow_nodup (xs := l) (ins_nodup h)
theorem mem_keys_follow {p : Pid} {L M : List (Pid × Int)} {xs : List Pid} : p ∈ keys (followL L M xs) ↔ p ∈ xs ∨ p ∈ keys M := by
  rw [← look_isSome, look_follow, ← look_isSome]
  by_cases h : p ∈ xs <;> simp [h]
theorem follow_length {L : List (Pid × Int)} : ∀ {xs : List Pid} {M : List (Pid × Int)}, (followL L M xs).length ≤ M.length + xs.length
  | [], _ => by simp [followL]
  | q :: l, M => by
    simp only [followL]
    have := follow_length (L := L) (xs := l) (M := ins q ((look q L).getD 0) M)
    have := ins_length (q := q) (v := (look q L).getD 0) (L := M)
    simp; omega
theorem follow_all {L : List (Pid × Int)} {b : Int} (hb : 0 ≤ b) (hL : ∀ z ∈ L, 0 ≤ z.2 ∧ z.2 ≤ b) : ∀ {xs : List Pid} {M : List (Pid × Int)}, (∀ z ∈ M, 0 ≤ z.2 ∧ z.2 ≤ b) → ∀ z ∈ followL L M xs, 0 ≤ z.2 ∧ z.2 ≤ b
  | [], _, h => h
  | q :: l, M, h => follow_all hb hL (xs := l) fun z hz => by
    rcases mem_ins hz with rfl | hz
    · cases hq : look q L with
      | none => exact ⟨Int.le_refl _, hb⟩
      | some n => exact hL _ (mem_of_look hq)
    · exact h z hz
/-- what is kept of a watch's map: no key twice, all may be, ages within bounds -/
structure AgeOk (L : List (Pid × Int)) (n b : Nat) : Prop where
  nd : (keys L).Nodup
  ok : ∀ p ∈ keys L, ok p
  age : ∀ z ∈ L, 0 ≤ z.2 ∧ z.2 ≤ (b : Int)
  len : L.length ≤ n
theorem AgeOk.bound {L : List (Pid × Int)} {n b : Nat} (h : AgeOk L n b) (hb : b ≤ 4611686018427387904) : ∀ p ∈ L, 0 ≤ p.2 ∧ p.2 ≤ 4611686018427387904 := fun p hp => by have := h.age p hp; omega
theorem AgeOk.tick {L : List (Pid × Int)} {n b : Nat} {T : Int} (h : AgeOk L n b) (hT : 1 ≤ T) : AgeOk (tickL T L) n (b + 1) :=
  ⟨by rw [keys_tick]; exact h.nd, by rw [keys_tick]; exact h.ok, fun z hz => by
    obtain ⟨y, hy, rfl⟩ := List.mem_map.1 hz
    have := h.age y hy
    simp only; omega, by unfold tickL; simpa using h.len⟩
theorem AgeOk.mono {L : List (Pid × Int)} {n n' b b' : Nat} (h : AgeOk L n b) (hn : n ≤ n') (hb : b ≤ b') : AgeOk L n' b' :=
  ⟨h.nd, h.ok, fun z hz => by have := h.age z hz; omega, by have := h.len; omega⟩
theorem ins_len_of_mem {q : Pid} {v : Int} : ∀ {L : List (Pid × Int)}, q ∈ keys L → (ins q v L).length = L.length
  | [], h => by simp [keys] at h
  | x :: l, h => by
    by_cases hq : q = x.1
    · simp [ins, hq]
    · simp only [ins, if_neg hq, List.length_cons]
      have : q ∈ keys l := by
        rcases List.mem_cons.1 h with h | h
        · exact absurd h hq
        · exact h
      rw [ins_len_of_mem this]
theorem AgeOk.heard {L : List (Pid × Int)} {n b : Nat} {p : Pid} (h : AgeOk L n b) : AgeOk (if (look p L).isSome = true then ins p 0 L else L) n b := by
  split
  · next hp =>
    have hk := look_isSome.1 hp
    refine ⟨ins_nodup h.nd, fun q hq => ?_, fun z hz => ?_, by rw [ins_len_of_mem hk]; exact h.len⟩
    · rcases mem_keys_ins.1 hq with rfl | hq
      · exact h.ok _ hk
      · exact h.ok _ hq
    · rcases mem_ins hz with rfl | hz
      · simp
      · exact h.age z hz
  · exact h
theorem AgeOk.follow {L : List (Pid × Int)} {n b m : Nat} {xs : List Pid} (h : AgeOk L n b) (hx : ∀ p ∈ xs, Go.Proofs.Ytjjahefedpfnaaa.ok p) (hm : xs.length ≤ m) : AgeOk (followL L [] xs) m b :=
  ⟨follow_nodup (by simp [keys]), fun p hp => by
    rcases mem_keys_follow.1 hp with hp | hp
    · exact hx p hp
    · simp [keys] at hp, fun z hz => follow_all (by omega) h.age (by simp) z hz, by have := follow_length (L := L) (xs := xs) (M := []); simp at this; omega⟩
theorem ageL_tick {p : Pid} {T n : Int} {L : List (Pid × Int)} (h : look p L = some n) : look p (tickL T L) = some (min (n + 1) T) := by rw [look_tick, h]; rfl
end Go.Proofs.Ytjjahefedpfnaaa
