/- Parts of the proof: X90 X91. -/
import Derived.Test.YtehagnbphamjhaaGreatDoorNI
namespace Go.Proofs.YtehagnbphamjhaaGreatDoor
open Go.RowKit
/-! ### layouts in plain words -/
structure Bnd where
  least : Int
  most : Int
  tmo : Int
def bchk (b : Bnd) : Bool := decide (1 ≤ b.least) && (decide (b.most ≤ 8) && decide (2 * b.least ≤ b.most))
abbrev LL := List (List Pid)
def gtL (b : Bnd) (l : List Pid) : Bool := decide (b.most < (l.length : Int))
def ltL (b : Bnd) (l : List Pid) : Bool := decide ((l.length : Int) < b.least)
def fixFrom (f : List Pid → Bool) : LL → Nat → Int
  | [], _ => -1
  | l :: r, k => if f l = true then (k : Int) else fixFrom f r (k + 1)
theorem fixFrom_drop {f : List Pid → Bool} {ls : LL} {k : Nat} (h : k < ls.length) {l : List Pid} (hl : l = ls[k]) : fixFrom f (ls.drop k) k = if f l = true then (k : Int) else fixFrom f (ls.drop (k + 1)) (k + 1) := by
  rw [List.drop_eq_getElem_cons h, ← hl]; rfl
theorem fixFrom_end {f : List Pid → Bool} {ls : LL} {k : Nat} (h : ls.length ≤ k) : fixFrom f (ls.drop k) k = -1 := by
  rw [List.drop_eq_nil_of_le h]; rfl
theorem fixFrom_cases (f : List Pid → Bool) : ∀ (ls : LL) (k : Nat), (fixFrom f ls k = -1 ∧ ∀ l ∈ ls, f l = false) ∨ ∃ j, ∃ h : j < ls.length, fixFrom f ls k = ((k + j : Nat) : Int) ∧ f ls[j] = true
  | [], k => .inl ⟨rfl, by simp⟩
  | l :: r, k => by
    unfold fixFrom
    cases hf : f l
    · rw [if_neg (by simp)]
      rcases fixFrom_cases f r (k + 1) with ⟨h1, h2⟩ | ⟨j, hj, h1, h2⟩
      · exact .inl ⟨h1, fun x hx => (List.mem_cons.1 hx).elim (fun e => e ▸ hf) (h2 x)⟩
      · exact .inr ⟨j + 1, by simpa using hj, by rw [h1]; congr 1; omega, by simpa using h2⟩
    · rw [if_pos rfl]
      exact .inr ⟨0, by simp, by simp, by simpa using hf⟩
def greatL (b : Bnd) (ls : LL) : Int := fixFrom (gtL b) ls 0
def smallL (b : Bnd) (ls : LL) : Int := if ls.length < 2 then -1 else fixFrom (ltL b) ls 0
def fitsL (b : Bnd) (ls : LL) : Bool := decide (greatL b ls < 0) && decide (smallL b ls < 0)
/-! the first with the fewest, but for one -/
def lenAt (ls : LL) (i : Nat) : Nat := (ls.getD i []).length
def fewStep (ls : LL) (but z : Int) (i : Nat) : Int := if (i : Int) ≠ but ∧ (z < 0 ∨ lenAt ls i < lenAt ls z.toNat) then (i : Int) else z
def fewTo (ls : LL) (but : Int) : Nat → Int
  | 0 => -1
  | k + 1 => fewStep ls but (fewTo ls but k) k
def fewL (ls : LL) (but : Int) : Int := fewTo ls but ls.length
def IsFew (ls : LL) (but : Int) (k : Nat) (z : Int) : Prop :=
  (z = -1 ∧ ∀ i, i < k → (i : Int) = but) ∨ ∃ j : Nat, j < k ∧ z = (j : Int) ∧ (j : Int) ≠ but ∧ ∀ i : Nat, i < k → (i : Int) ≠ but → lenAt ls j ≤ lenAt ls i ∧ (i < j → lenAt ls j < lenAt ls i)
theorem fewTo_is (ls : LL) (but : Int) : ∀ k, IsFew ls but k (fewTo ls but k)
  | 0 => .inl ⟨rfl, fun i h => by omega⟩
  | k + 1 => by
    have ih := fewTo_is ls but k
    unfold fewTo fewStep
    rcases ih with ⟨h1, h2⟩ | ⟨j, h1, h2, h3, h4⟩
    · rw [h1]
      by_cases hk : (k : Int) ≠ but
      · rw [if_pos ⟨hk, .inl (by omega)⟩]
        refine .inr ⟨k, by omega, rfl, hk, fun i hi hb => ?_⟩
        by_cases hik : i = k
        · subst hik; exact ⟨Nat.le_refl _, fun h => by omega⟩
        · exact absurd (h2 i (by omega)) hb
      · rw [if_neg (fun h => hk h.1)]
        refine .inl ⟨rfl, fun i hi => ?_⟩
        by_cases hik : i = k
        · subst hik; omega
        · exact h2 i (by omega)
    · rw [h2]
      simp only [Int.toNat_natCast]
      by_cases hc : (k : Int) ≠ but ∧ (((j : Nat) : Int) < 0 ∨ lenAt ls k < lenAt ls j)
      · rw [if_pos hc]
        have hlt : lenAt ls k < lenAt ls j := by rcases hc.2 with h | h <;> omega
        refine .inr ⟨k, by omega, rfl, hc.1, fun i hi hb => ?_⟩
        by_cases hik : i = k
        · subst hik; exact ⟨Nat.le_refl _, fun h => by omega⟩
        · have := (h4 i (by omega) hb).1
          exact ⟨by omega, fun _ => by omega⟩
      · rw [if_neg hc]
        refine .inr ⟨j, by omega, rfl, h3, fun i hi hb => ?_⟩
        by_cases hik : i = k
        · subst hik
          have : ¬ lenAt ls i < lenAt ls j := fun h => hc ⟨hb, .inr h⟩
          exact ⟨by omega, fun _ => by omega⟩
        · exact h4 i (by omega) hb
theorem fewL_some {ls : LL} (h : 0 < ls.length) : ∃ j : Nat, j < ls.length ∧ fewL ls (-1) = (j : Int) := by
  rcases fewTo_is ls (-1) ls.length with ⟨h1, h2⟩ | ⟨j, h1, h2, -⟩
  · have := h2 0 h; omega
  · exact ⟨j, h1, h2⟩
/-! a place in a row -/
theorem split_at {α : Type} {d : α} {ls : List α} {i : Nat} (h : i < ls.length) : ∃ A x B, ls = A ++ x :: B ∧ A.length = i ∧ ls.getD i d = x :=
  ⟨ls.take i, ls[i], ls.drop (i + 1), by rw [List.getElem_cons_drop, List.take_append_drop], by simp; omega, by simp [List.getD, h]⟩
theorem set_mid {α : Type} (x y : α) (B : List α) : ∀ A : List α, (A ++ x :: B).set A.length y = A ++ y :: B
  | [] => rfl
  | a :: A => by simp [set_mid x y B A]
theorem erase_mid {α : Type} (x : α) (B : List α) : ∀ A : List α, (A ++ x :: B).eraseIdx A.length = A ++ B
  | [] => rfl
  | a :: A => by simp [erase_mid x B A]
/-! parting and joining -/
def half (l : List Pid) : Nat := (l.length + 1) / 2
def partL (ls : LL) (i : Nat) : LL := ls.set i ((ls.getD i []).take (half (ls.getD i []))) ++ [(ls.getD i []).drop (half (ls.getD i []))]
def joinL (ls : LL) (s : Nat) : LL := (ls.eraseIdx s).set (fewL (ls.eraseIdx s) (-1)).toNat ((ls.eraseIdx s).getD (fewL (ls.eraseIdx s) (-1)).toNat [] ++ ls.getD s [])
def fitN (b : Bnd) : Nat → LL → LL
  | 0, ls => ls
  | n + 1, ls => if 0 ≤ greatL b ls then fitN b n (partL ls (greatL b ls).toNat) else if 0 ≤ smallL b ls then fitN b n (joinL ls (smallL b ls).toNat) else ls
def total (ls : LL) : Nat := (ls.map List.length).sum
def phi (b : Bnd) (ls : LL) : Nat := 2 * ls.countP (ltL b) + total ls - ls.length
def Full (ls : LL) : Prop := ∀ l ∈ ls, l ≠ []
theorem total_app (A B : LL) : total (A ++ B) = total A + total B := by simp [total]
theorem total_cons (x : List Pid) (B : LL) : total (x :: B) = x.length + total B := by simp [total]
theorem full_len {ls : LL} (h : Full ls) : ls.length ≤ total ls := by
  induction ls with
  | nil => simp [total]
  | cons l r ih =>
    have h1 : 0 < l.length := List.length_pos_iff.2 (h l (List.mem_cons_self ..))
    have h2 := ih (fun x hx => h x (List.mem_cons_of_mem _ hx))
    rw [total_cons, List.length_cons]; omega
theorem total_flat (ls : LL) : ls.flatten.length = total ls := by
  induction ls with
  | nil => rfl
  | cons l r ih => rw [List.flatten_cons, List.length_append, ih, total_cons]
theorem phi_le {b : Bnd} {ls : LL} (h : Full ls) : phi b ls ≤ 3 * total ls := by
  have h1 : ls.countP (ltL b) ≤ ls.length := List.countP_le_length
  have h2 := full_len h
  unfold phi; omega
theorem bchk_ok {b : Bnd} (h : bchk b = true) : 1 ≤ b.least ∧ b.most ≤ 8 ∧ 2 * b.least ≤ b.most := by
  unfold bchk at h
  simp only [Bool.and_eq_true, decide_eq_true_eq] at h
  exact h
theorem part_ok {b : Bnd} {ls : LL} (hb : bchk b = true) (hf : Full ls) (hg : 0 ≤ greatL b ls) :
    phi b (partL ls (greatL b ls).toNat) < phi b ls ∧ Full (partL ls (greatL b ls).toNat) ∧ (partL ls (greatL b ls).toNat).flatten.Perm ls.flatten ∧ (greatL b ls).toNat < ls.length ∧ 2 ≤ (ls.getD (greatL b ls).toNat []).length := by
  obtain ⟨hb1, hb2, hb3⟩ := bchk_ok hb
  rcases fixFrom_cases (gtL b) ls 0 with ⟨h1, -⟩ | ⟨j, hj, h1, h2⟩
  · unfold greatL at hg; omega
  have hz : (greatL b ls).toNat = j := by unfold greatL; rw [h1]; simp
  rw [hz]
  obtain ⟨A, x, B, rfl, rfl, hx⟩ := split_at (d := ([] : List Pid)) hj
  have hx2 : (A ++ x :: B)[A.length] = x := by simp
  rw [hx2] at h2
  unfold gtL at h2
  simp only [decide_eq_true_eq] at h2
  unfold partL
  rw [hx, set_mid]
  have hl2 : 2 ≤ x.length := by omega
  have hh : half x = (x.length + 1) / 2 := rfl
  have ht : (x.take (half x)).length = half x := by rw [List.length_take]; omega
  have hd : (x.drop (half x)).length = x.length - half x := List.length_drop
  have n1 : ltL b (x.take (half x)) = false := by unfold ltL; rw [ht]; simp; omega
  have n2 : ltL b (x.drop (half x)) = false := by unfold ltL; rw [hd]; simp; omega
  have hfl := full_len hf
  have nx : ltL b x = false := by unfold ltL; simp; omega
  have c0 : (A ++ x :: B).countP (ltL b) = A.countP (ltL b) + B.countP (ltL b) := by simp only [List.countP_append, List.countP_cons, nx]; simp
  have c1 : (A ++ x.take (half x) :: B ++ [x.drop (half x)]).countP (ltL b) = A.countP (ltL b) + B.countP (ltL b) := by simp only [List.countP_append, List.countP_cons, List.countP_nil, n1, n2]; simp
  have t0 : total (A ++ x :: B) = total A + x.length + total B := by simp only [total_app, total_cons]; omega
  have t1 : total (A ++ x.take (half x) :: B ++ [x.drop (half x)]) = total A + x.length + total B := by
    have e : total ([] : LL) = 0 := rfl
    simp only [total_app, total_cons, ht, hd, e]; omega
  have l0 : (A ++ x :: B).length = A.length + B.length + 1 := by simp; omega
  have l1 : (A ++ x.take (half x) :: B ++ [x.drop (half x)]).length = A.length + B.length + 2 := by simp; omega
  refine ⟨?_, ?_, ?_, by simp, hl2⟩
  · unfold phi
    rw [c0, c1, t0, t1, l0, l1]
    have hfa := full_len (ls := A) (fun l hl => hf l (by simp [hl]))
    have hfb := full_len (ls := B) (fun l hl => hf l (by simp [hl]))
    omega
  · intro l hl
    simp only [List.mem_append, List.mem_cons, List.not_mem_nil, or_false] at hl
    rcases hl with (hl | rfl | hl) | rfl
    · exact hf l (by simp [hl])
    · exact fun e => by rw [e] at ht; simp at ht; omega
    · exact hf l (by simp [hl])
    · exact fun e => by rw [e] at hd; simp at hd; omega
  · simp only [List.flatten_append, List.flatten_cons, List.flatten_nil, List.append_nil]
    have h5 : x.take (half x) ++ x.drop (half x) = x := List.take_append_drop _ _
    refine List.Perm.trans ?_ (List.Perm.append_left A.flatten (by rw [h5] : ((x.take (half x) ++ x.drop (half x)) ++ B.flatten).Perm (x ++ B.flatten)))
    rw [List.append_assoc, List.append_assoc, List.append_assoc]
    exact List.Perm.append_left _ (List.Perm.append_left _ List.perm_append_comm)
theorem small_two {b : Bnd} {ls : LL} (h : 0 ≤ smallL b ls) : 2 ≤ ls.length := by
  unfold smallL at h
  by_cases h2 : ls.length < 2
  · rw [if_pos h2] at h; omega
  · omega
theorem join_ok {b : Bnd} {ls : LL} (hb : bchk b = true) (hf : Full ls) (hs : 0 ≤ smallL b ls) :
    phi b (joinL ls (smallL b ls).toNat) < phi b ls ∧ Full (joinL ls (smallL b ls).toNat) ∧ (joinL ls (smallL b ls).toNat).flatten.Perm ls.flatten ∧ (smallL b ls).toNat < ls.length := by
  obtain ⟨hb1, hb2, hb3⟩ := bchk_ok hb
  have h2 := small_two hs
  have e : smallL b ls = fixFrom (ltL b) ls 0 := by unfold smallL; rw [if_neg (by omega)]
  rw [e] at hs ⊢
  rcases fixFrom_cases (ltL b) ls 0 with ⟨h1, -⟩ | ⟨j, hj, h1, h3⟩
  · omega
  have hz : (fixFrom (ltL b) ls 0).toNat = j := by rw [h1]; simp
  rw [hz]
  have hfl := full_len hf
  obtain ⟨A, x, B, rfl, rfl, hx⟩ := split_at (d := ([] : List Pid)) hj
  have hx2 : (A ++ x :: B)[A.length] = x := by simp
  rw [hx2] at h3
  unfold joinL
  rw [hx, erase_mid]
  have hAB : 0 < (A ++ B).length := by simp at h2 ⊢; omega
  obtain ⟨t, ht, hte⟩ := fewL_some hAB
  rw [hte, Int.toNat_natCast]
  have hfAB : Full (A ++ B) := fun l hl => hf l (by simp at hl ⊢; rcases hl with h | h <;> simp [h])
  have htot : total (A ++ x :: B) = x.length + total (A ++ B) := by simp only [total_app, total_cons]; omega
  have hcnt : (A ++ x :: B).countP (ltL b) = 1 + (A ++ B).countP (ltL b) := by simp only [List.countP_append, List.countP_cons, h3, if_true]; omega
  have hlen : (A ++ x :: B).length = 1 + (A ++ B).length := by simp; omega
  have hperm : (A ++ x :: B).flatten.Perm (x ++ (A ++ B).flatten) := by
    simp only [List.flatten_append, List.flatten_cons]
    rw [← List.append_assoc, ← List.append_assoc]
    exact List.Perm.append_right _ List.perm_append_comm
  have hfx : x ≠ [] := hf x (by simp)
  generalize hM : A ++ B = M at *
  obtain ⟨C, y, D, rfl, rfl, hy⟩ := split_at (d := ([] : List Pid)) ht
  rw [hy, set_mid]
  have hfM := full_len hfAB
  have hx1 : 0 < x.length := List.length_pos_iff.2 hfx
  have hy1 : ltL b (y ++ x) = true → ltL b y = true := by unfold ltL; simp; omega
  have c0 : (C ++ y :: D).countP (ltL b) = C.countP (ltL b) + D.countP (ltL b) + (if ltL b y = true then 1 else 0) := by simp only [List.countP_append, List.countP_cons]; omega
  have c1 : (C ++ (y ++ x) :: D).countP (ltL b) = C.countP (ltL b) + D.countP (ltL b) + (if ltL b (y ++ x) = true then 1 else 0) := by simp only [List.countP_append, List.countP_cons]; omega
  have c2 : (if ltL b (y ++ x) = true then 1 else 0) ≤ (if ltL b y = true then 1 else 0) := by
    by_cases h : ltL b (y ++ x) = true
    · rw [if_pos h, if_pos (hy1 h)]; omega
    · rw [if_neg h]; exact Nat.zero_le _
  have t0 : total (C ++ y :: D) = total C + y.length + total D := by simp only [total_app, total_cons]; omega
  have t1 : total (C ++ (y ++ x) :: D) = total C + y.length + x.length + total D := by simp only [total_app, total_cons, List.length_append]; omega
  have l0 : (C ++ y :: D).length = C.length + D.length + 1 := by simp; omega
  have l1 : (C ++ (y ++ x) :: D).length = C.length + D.length + 1 := by simp; omega
  refine ⟨?_, ?_, ?_, by simp⟩
  · unfold phi
    rw [htot, hcnt, hlen, c0, c1, t0, t1, l0, l1]
    rw [t0, l0] at hfM
    omega
  · intro l hl
    simp only [List.mem_append, List.mem_cons] at hl
    rcases hl with hl | rfl | hl
    · exact hfAB l (by simp [hl])
    · exact fun e => hfx (List.append_eq_nil_iff.1 e).2
    · exact hfAB l (by simp [hl])
  · refine List.Perm.trans ?_ hperm.symm
    simp only [List.flatten_append, List.flatten_cons]
    -- C ++ ((y ++ x) ++ D) ~ x ++ (C ++ (y ++ D))
    have e1 : C.flatten ++ (y ++ x ++ D.flatten) = (C.flatten ++ y) ++ (x ++ D.flatten) := by simp
    have e2 : x ++ (C.flatten ++ (y ++ D.flatten)) = (x ++ (C.flatten ++ y)) ++ D.flatten := by simp
    rw [e1, e2, ← List.append_assoc]
    exact List.Perm.append_right _ List.perm_append_comm
theorem fit_ok {b : Bnd} (hb : bchk b = true) : ∀ (n : Nat) (ls : LL), Full ls → phi b ls ≤ n → Full (fitN b n ls) ∧ (fitN b n ls).flatten.Perm ls.flatten ∧ fitsL b (fitN b n ls) = true
  | n, ls, hf, hp => by
    by_cases hg : 0 ≤ greatL b ls
    · obtain ⟨h1, h2, h3, -, -⟩ := part_ok hb hf hg
      match n, hp with
      | 0, hp => omega
      | n + 1, hp =>
        have ih := fit_ok hb n (partL ls (greatL b ls).toNat) h2 (by omega)
        unfold fitN
        rw [if_pos hg]
        exact ⟨ih.1, ih.2.1.trans h3, ih.2.2⟩
    · by_cases hs : 0 ≤ smallL b ls
      · obtain ⟨h1, h2, h3, -⟩ := join_ok hb hf hs
        match n, hp with
        | 0, hp => omega
        | n + 1, hp =>
          have ih := fit_ok hb n (joinL ls (smallL b ls).toNat) h2 (by omega)
          unfold fitN
          rw [if_neg hg, if_pos hs]
          exact ⟨ih.1, ih.2.1.trans h3, ih.2.2⟩
      · have e : fitN b n ls = ls := by
          cases n with
          | zero => rfl
          | succ n => unfold fitN; rw [if_neg hg, if_neg hs]
        rw [e]
        exact ⟨hf, List.Perm.refl _, by unfold fitsL; simp; omega⟩
end Go.Proofs.YtehagnbphamjhaaGreatDoor

namespace Go.Proofs.YtehagnbphamjhaaGreatDoor
open Go.RowKit
/-! ### leaves in the members' order, and the leaders, in plain words -/
def keyL (ms : List Pid) (l : List Pid) : Nat := ms.findIdx fun p => decide (p ∈ l)
def ordR (ms : List Pid) (ls : LL) : LL := (List.range ms.length).flatMap fun i => (ls.filter fun l => decide (keyL ms l = i)).map (commonP ms)
def hdIx (ms : List Pid) (l : List Pid) : Int := atIx ms (l.headD (0, 0))
/-- leaves that part the members -/
structure Parts (ms : List Pid) (ls : LL) : Prop where
  nd : ms.Nodup
  full : Full ls
  perm : ls.flatten.Perm ms
theorem Parts.hit {ms : List Pid} {ls : LL} (h : Parts ms ls) {l : List Pid} (hl : l ∈ ls) : ∃ p ∈ ms, p ∈ l := by
  obtain ⟨p, hp⟩ := List.exists_mem_of_ne_nil l (h.full l hl)
  exact ⟨p, h.perm.mem_iff.1 (List.mem_flatten.2 ⟨l, hl, hp⟩), hp⟩
theorem Parts.key_lt {ms : List Pid} {ls : LL} (h : Parts ms ls) {l : List Pid} (hl : l ∈ ls) : keyL ms l < ms.length := by
  obtain ⟨p, h1, h2⟩ := h.hit hl
  exact List.findIdx_lt_length_of_exists ⟨p, h1, by simpa using h2⟩
theorem Parts.key_mem {ms : List Pid} {ls : LL} (h : Parts ms ls) {l : List Pid} (hl : l ∈ ls) : ms[keyL ms l]'(h.key_lt hl) ∈ l := by
  have := List.findIdx_getElem (w := h.key_lt hl)
  exact of_decide_eq_true this
theorem key_min {ms l : List Pid} {j : Nat} (h : j < keyL ms l) (hj : j < ms.length) : ms[j] ∉ l := by
  have := List.not_of_lt_findIdx h
  simpa using this
theorem Parts.keys {ms : List Pid} {ls : LL} (h : Parts ms ls) : ls.Pairwise fun a b => keyL ms a ≠ keyL ms b := by
  have h1 : ls.flatten.Nodup := h.perm.nodup_iff.2 h.nd
  have h2 := (List.pairwise_flatten.1 h1).2
  refine List.Pairwise.imp_of_mem ?_ h2
  intro a b ha hb hab hk
  have ka := h.key_mem ha
  have kb := h.key_mem hb
  have e : ms[keyL ms a]'(h.key_lt ha) = ms[keyL ms b]'(h.key_lt hb) := by simp only [hk]
  rw [e] at ka
  exact hab _ ka _ kb rfl
theorem pairwise_inj {α β : Type} {f : α → β} : ∀ {l : List α}, l.Pairwise (fun a b => f a ≠ f b) → ∀ a ∈ l, ∀ b ∈ l, f a = f b → a = b
  | [], _, a, ha, _, _, _ => by cases ha
  | x :: r, h, a, ha, b, hb, e => by
    obtain ⟨h1, h2⟩ := List.pairwise_cons.1 h
    rcases List.mem_cons.1 ha with e1 | ha2 <;> rcases List.mem_cons.1 hb with e2 | hb2
    · rw [e1, e2]
    · rw [e1] at e; exact absurd e (h1 b hb2)
    · rw [e2] at e; exact absurd e.symm (h1 a ha2)
    · exact pairwise_inj h2 a ha2 b hb2 e
theorem atIx_nd {ms : List Pid} (h : ms.Nodup) {k : Nat} (hk : k < ms.length) : atIx ms ms[k] = (k : Int) := by
  have e : ms = ms.take k ++ ms[k] :: ms.drop (k + 1) := by rw [List.getElem_cons_drop, List.take_append_drop]
  have hn : ms[k] ∉ ms.take k := by
    intro hm
    rw [e] at h
    have := (List.nodup_append.1 h).2.2 _ hm _ (List.mem_cons_self ..)
    exact this rfl
  unfold atIx
  have := atFrom_skip (p := ms[k]) (pre := ms.take k) (suf := ms.drop (k + 1)) (k := 0) hn
  rw [← e] at this
  rw [this]
  simp; omega
theorem Parts.head {ms : List Pid} {ls : LL} (h : Parts ms ls) {l : List Pid} (hl : l ∈ ls) : (commonP ms l).head? = some (ms[keyL ms l]'(h.key_lt hl)) := by
  unfold commonP
  rw [List.head?_filter, List.find?_eq_some_iff_getElem]
  refine ⟨by simpa using h.key_mem hl, keyL ms l, h.key_lt hl, rfl, fun j hj => ?_⟩
  have := key_min (l := l) hj (by have := h.key_lt hl; omega)
  simpa using this
theorem Parts.hdIx {ms : List Pid} {ls : LL} (h : Parts ms ls) {l : List Pid} (hl : l ∈ ls) : hdIx ms (commonP ms l) = (keyL ms l : Int) := by
  unfold Go.Proofs.YtehagnbphamjhaaGreatDoor.hdIx
  rw [List.headD_eq_head?_getD, h.head hl, Option.getD_some]
  exact atIx_nd h.nd _
theorem sum_ind (k c : Nat) : ∀ n : Nat, ((List.range n).map fun i => if k = i then c else 0).sum = if k < n then c else 0
  | 0 => by simp
  | n + 1 => by
    rw [List.range_succ, List.map_append, List.sum_append, sum_ind k c n]
    simp only [List.map_cons, List.map_nil, List.sum_cons, List.sum_nil]
    by_cases h1 : k < n
    · rw [if_pos h1, if_neg (by omega), if_pos (by omega)]; omega
    · rw [if_neg h1]
      by_cases h2 : k = n
      · rw [if_pos h2, if_pos (by omega)]; omega
      · rw [if_neg h2, if_neg (by omega)]; rfl
theorem flat_filter_perm {α : Type} [DecidableEq α] (f : α → Nat) (n : Nat) (l : List α) (h : ∀ a ∈ l, f a < n) : ((List.range n).flatMap fun i => l.filter fun a => decide (f a = i)).Perm l := by
  rw [List.perm_iff_count]
  intro a
  by_cases ha : a ∈ l
  · rw [List.count_flatMap]
    have e : (List.range n).map (List.count a ∘ fun i => l.filter fun a => decide (f a = i)) = (List.range n).map fun i => if f a = i then l.count a else 0 := by
      refine List.map_congr_left fun i _ => ?_
      simp only [Function.comp]
      by_cases hi : f a = i
      · rw [if_pos hi, List.count_filter (by simpa using hi)]
      · rw [if_neg hi, List.count_eq_zero]
        simp [hi]
    rw [e, sum_ind, if_pos (h a ha)]
  · rw [List.count_eq_zero.2 ha, List.count_eq_zero]
    intro hm
    obtain ⟨i, -, hi⟩ := List.mem_flatMap.1 hm
    exact ha (List.mem_filter.1 hi).1
theorem Parts.ord_perm {ms : List Pid} {ls : LL} (h : Parts ms ls) : (ordR ms ls).Perm (ls.map (commonP ms)) := by
  have := (flat_filter_perm (keyL ms) ms.length ls fun a ha => h.key_lt ha).map (commonP ms)
  unfold ordR
  rwa [List.map_flatMap] at this
theorem Parts.ord_sorted {ms : List Pid} {ls : LL} (h : Parts ms ls) : (ordR ms ls).Pairwise fun a b => Go.Proofs.YtehagnbphamjhaaGreatDoor.hdIx ms a ≤ Go.Proofs.YtehagnbphamjhaaGreatDoor.hdIx ms b := by
  have hk : ∀ i, ∀ a ∈ (ls.filter fun l => decide (keyL ms l = i)).map (commonP ms), Go.Proofs.YtehagnbphamjhaaGreatDoor.hdIx ms a = (i : Int) := by
    intro i a ha
    obtain ⟨l, hl, rfl⟩ := List.mem_map.1 ha
    obtain ⟨h1, h2⟩ := List.mem_filter.1 hl
    rw [h.hdIx h1]
    have : keyL ms l = i := by simpa using h2
    rw [this]
  unfold ordR
  rw [List.pairwise_flatMap]
  refine ⟨fun i _ => ?_, ?_⟩
  · refine List.Pairwise.imp_of_mem (R := fun _ _ => True) ?_ (List.pairwise_of_forall fun _ _ => trivial)
    intro a b ha hb _
    rw [hk i a ha, hk i b hb]; exact Int.le_refl _
  · refine List.Pairwise.imp ?_ List.pairwise_lt_range
    intro i j hij a ha b hb
    rw [hk i a ha, hk j b hb]; omega
/-- what is sorted by the first one's place is the reference's order -/
theorem Parts.ord_eq {ms : List Pid} {ls : LL} (h : Parts ms ls) {cs : LL} (hp : cs.Perm (ls.map (commonP ms))) (hs : cs.Pairwise fun a b => Go.Proofs.YtehagnbphamjhaaGreatDoor.hdIx ms a ≤ Go.Proofs.YtehagnbphamjhaaGreatDoor.hdIx ms b) : cs = ordR ms ls := by
  refine List.Perm.eq_of_pairwise (le := fun a b => Go.Proofs.YtehagnbphamjhaaGreatDoor.hdIx ms a ≤ Go.Proofs.YtehagnbphamjhaaGreatDoor.hdIx ms b) ?_ hs h.ord_sorted (hp.trans h.ord_perm.symm)
  intro a b ha hb h1 h2
  have ha := hp.mem_iff.1 ha
  have hb := h.ord_perm.mem_iff.1 hb
  obtain ⟨l, hl, rfl⟩ := List.mem_map.1 ha
  obtain ⟨m, hm, rfl⟩ := List.mem_map.1 hb
  rw [h.hdIx hl, h.hdIx hm] at h1 h2
  have := pairwise_inj h.keys l hl m hm (by omega)
  rw [this]
/-! the leaders -/
def leadStep (S : List Pid) (p : Pid) : List Pid := if 3 ≤ S.length then S else if p ∈ S then S else S ++ [p]
def leadS (ms : List Pid) (S : List Pid) : List Pid := ms.foldl leadStep S
theorem leadS_full : ∀ (ms : List Pid) {S : List Pid}, 3 ≤ S.length → leadS ms S = S
  | [], _, _ => rfl
  | p :: r, S, h => by
    show leadS r (leadStep S p) = S
    have e : leadStep S p = S := by unfold leadStep; rw [if_pos h]
    rw [e]; exact leadS_full r h
/-- of leaves, the first ones; then members till there are three -/
def leadersL (ms : List Pid) (heads : List Pid) : List Pid := ms.filter fun p => decide (p ∈ leadS ms heads)
end Go.Proofs.YtehagnbphamjhaaGreatDoor

