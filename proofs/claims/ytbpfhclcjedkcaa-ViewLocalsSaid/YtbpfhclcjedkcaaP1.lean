import Derived.Test.YtbpfhclcjedkcaaR3
namespace Go.Proofs.Ytbpfhclcjedkcaa

/-! ## the plain law: view.Check answers as the document says -/
def keys {α β : Type} (L : List (α × β)) : List α := L.map (·.1)
theorem look_isSome {α β : Type} [DecidableEq α] {x : α} : ∀ {L : List (α × β)}, (look x L).isSome = true ↔ x ∈ keys L
  | [] => by simp [look, keys]
  | p :: l => by
    have ih := look_isSome (x := x) (L := l)
    have e : look x (p :: l) = if x = p.1 then some p.2 else look x l := rfl
    have ek : keys (p :: l) = p.1 :: keys l := rfl
    rw [e, ek, List.mem_cons, ← ih]
    by_cases h : x = p.1 <;> simp [h]
theorem ins_len {α β : Type} [DecidableEq α] {x : α} {v : β} : ∀ {L : List (α × β)}, x ∉ keys L → ins x v L = L ++ [(x, v)]
  | [], _ => rfl
  | p :: l, h => by
    simp only [keys, List.map_cons, List.mem_cons, not_or] at h
    simp only [ins, if_neg h.1, List.cons_append]
    rw [ins_len h.2]
theorem look_ins {α β : Type} [DecidableEq α] {x y : α} {v : β} : ∀ {L : List (α × β)}, look x (ins y v L) = if x = y then some v else look x L
  | [] => by simp [ins, look]
  | p :: l => by
    have ih := look_ins (x := x) (y := y) (v := v) (L := l)
    simp only [ins]
    by_cases h : y = p.1
    · simp only [if_pos h, look]
      by_cases hx : x = y
      · simp [hx]
      · have : ¬ x = p.1 := fun e => hx (e.trans h.symm)
        simp [hx, this]
    · simp only [if_neg h, look, ih]
      by_cases hx : x = p.1
      · have : ¬ x = y := fun e => h (e.symm.trans hx)
        simp [hx, this]
        intro e; exact absurd (e.symm) (by intro e2; exact h (by rw [← e2]))
      · simp [hx]

theorem add1_of_mem {p : Pid} {L : List (Pid × Unit)} (h : p ∈ keys L) : add1 p L = L := by unfold add1; rw [if_pos (look_isSome.2 h)]
theorem add1_of_not {p : Pid} {L : List (Pid × Unit)} (h : p ∉ keys L) : add1 p L = L ++ [(p, ())] := by
  unfold add1; rw [if_neg (fun e => h (look_isSome.1 e)), ins_len h]
theorem unionL_len : ∀ (xs : List Pid) (L : List (Pid × Unit)), (unionL L xs).length ≤ L.length + xs.length ∧ ((unionL L xs).length = L.length + xs.length ↔ xs.Nodup ∧ ∀ x ∈ xs, x ∉ keys L)
  | [], L => by simp [unionL]
  | p :: l, L => by
    simp only [unionL]
    by_cases h : p ∈ keys L
    · obtain ⟨h1, h2⟩ := unionL_len l L
      rw [add1_of_mem h]
      refine ⟨by simp only [List.length_cons]; omega, ?_⟩
      constructor
      · intro e; simp only [List.length_cons] at e; omega
      · rintro ⟨_, h3⟩; exact absurd h (h3 p (List.mem_cons_self ..))
    · obtain ⟨h1, h2⟩ := unionL_len l (L ++ [(p, ())])
      rw [add1_of_not h]
      simp only [List.length_append, List.length_cons, List.length_nil] at h1 h2 ⊢
      refine ⟨by omega, ?_⟩
      have e : (unionL (L ++ [(p, ())]) l).length = L.length + (l.length + 1) ↔ (unionL (L ++ [(p, ())]) l).length = L.length + (0 + 1) + l.length := by omega
      rw [e, h2, List.nodup_cons]
      have hk : keys (L ++ [(p, ())]) = keys L ++ [p] := by simp [keys]
      rw [hk]
      simp only [List.mem_append, List.mem_cons, List.not_mem_nil, or_false, not_or]
      constructor
      · rintro ⟨a, b⟩
        exact ⟨⟨fun hp => (b p hp).2 rfl, a⟩, fun x hx => by
          rcases hx with rfl | hx
          · exact h
          · exact (b x hx).1⟩
      · rintro ⟨⟨a, b⟩, c⟩
        exact ⟨b, fun x hx => ⟨c x (.inr hx), fun e => a (e ▸ hx)⟩⟩
theorem unionL_nodup {xs : List Pid} : (unionL [] xs).length = xs.length ↔ xs.Nodup := by
  have := (unionL_len xs []).2
  simpa [keys] using this

theorem memFrom_iff {n : Nat} : ∀ {xs : List Pid} {S : List (Int × Unit)}, memFrom n S xs = true ↔ (0 < n ∧ n ≤ 24) ∧ (∀ p ∈ xs, mayB p = true) ∧ xs.Pairwise (fun p q => p.1 ≠ q.1) ∧ ∀ p ∈ xs, p.1 ∉ keys S
  | [], S => by simp [memFrom]
  | p :: l, S => by
    simp only [memFrom]
    by_cases h : p.1 ∈ keys S
    · rw [if_pos (look_isSome.2 h)]
      simp only [Bool.false_eq_true, false_iff]
      rintro ⟨_, _, _, h4⟩
      exact h4 p (List.mem_cons_self ..) h
    · rw [if_neg (fun e => h (look_isSome.1 e))]
      by_cases hm : mayB p = true
      · rw [if_pos hm, memFrom_iff, ins_len h]
        have hk : keys (S ++ [(p.1, ())]) = keys S ++ [p.1] := by simp [keys]
        rw [hk]
        simp only [List.mem_append, List.mem_cons, List.not_mem_nil, or_false, not_or, List.pairwise_cons, forall_eq_or_imp]
        constructor
        · rintro ⟨a, b, c, d⟩
          exact ⟨a, ⟨hm, b⟩, ⟨fun q hq e => (d q hq).2 e.symm, c⟩, h, fun q hq => (d q hq).1⟩
        · rintro ⟨a, ⟨_, b⟩, ⟨c, d⟩, _, e⟩
          exact ⟨a, b, d, fun q hq => ⟨e q hq, fun e2 => c q hq e2.symm⟩⟩
      · rw [if_neg hm]
        simp only [Bool.false_eq_true, false_iff]
        rintro ⟨_, b, _⟩
        exact hm (b p (List.mem_cons_self ..))

theorem refA_iff {K : Bool} : ∀ {xs pre : List Pid}, refA K (pre ++ xs) pre.length xs = true ↔ K = true ∧ (∀ p ∈ xs, mayR p = true) ∧ (∀ p ∈ xs, ∀ q ∈ pre, q.1 ≠ p.1) ∧ xs.Pairwise (fun p q => p.1 ≠ q.1)
  | [], pre => by simp [refA]
  | p :: l, pre => by
    simp only [refA, List.take_left']
    by_cases hm : mayR p = true
    · rw [if_pos hm]
      by_cases ha : pre.any (sameId p) = true
      · rw [if_pos ha]
        simp only [Bool.false_eq_true, false_iff]
        rintro ⟨_, _, c, _⟩
        obtain ⟨q, hq, e⟩ := List.any_eq_true.1 ha
        exact c p (List.mem_cons_self ..) q hq (by simpa [sameId] using e)
      · rw [if_neg ha]
        have ih := refA_iff (K := K) (xs := l) (pre := pre ++ [p])
        simp only [List.append_assoc, List.cons_append, List.nil_append, List.length_append, List.length_cons, List.length_nil, Nat.zero_add] at ih
        rw [ih]
        have hpre : ∀ q ∈ pre, q.1 ≠ p.1 := fun q hq e => ha (List.any_eq_true.2 ⟨q, hq, by simpa [sameId] using e⟩)
        simp only [List.mem_append, List.mem_cons, List.not_mem_nil, or_false, forall_eq_or_imp, List.pairwise_cons]
        constructor
        · rintro ⟨a, b, c, d⟩
          exact ⟨a, ⟨hm, b⟩, ⟨hpre, fun r hr q hq => c r hr q (.inl hq)⟩, fun r hr => c r hr p (.inr rfl), d⟩
        · rintro ⟨a, ⟨_, b⟩, ⟨_, c⟩, d, e⟩
          exact ⟨a, b, fun r hr q hq => by
            rcases hq with hq | rfl
            · exact c r hr q hq
            · exact d r hr, e⟩
    · rw [if_neg hm]
      simp only [Bool.false_eq_true, false_iff]
      rintro ⟨_, b, _⟩
      exact hm (b p (List.mem_cons_self ..))
theorem refB_iff {K : Bool} {fl : List Pid} : ∀ {xs : List Pid}, refB K fl xs = true ↔ K = true ∧ ∀ p ∈ xs, fl.count p = 1
  | [] => by simp [refB]
  | p :: l => by
    simp only [refB]
    by_cases h : fl.count p = 1
    · rw [if_pos h, refB_iff]; simp [h]
    · rw [if_neg h]; simp [h]

/-- the heads of the leaves -/
def heads : List (List Pid) → List Pid
  | [] => []
  | l :: r => l.head?.toList ++ heads r
theorem chkFrom_iff {S : List (Pid × Int)} {K : List Pid → Nat → Bool} : ∀ {ls : List (List Pid)} {F : List Pid} {n : Nat}, chkFrom S K F n ls = true ↔ (∀ l ∈ ls, l ≠ [] ∧ risFrom S (-1) l = true) ∧ K (F ++ heads ls) (n + lens ls) = true
  | [], F, n => by simp [chkFrom, heads, lens]
  | l :: r, F, n => by
    cases l with
    | nil => simp [chkFrom]
    | cons p l =>
      simp only [chkFrom]
      by_cases h : risFrom S (-1) (p :: l) = true
      · rw [if_pos h, chkFrom_iff]
        have e1 : F ++ [p] ++ heads r = F ++ heads ((p :: l) :: r) := by simp [heads]
        have e2 : n + (p :: l).length + lens r = n + lens ((p :: l) :: r) := by simp [lens]; omega
        rw [e1, e2]
        simp [h]
      · rw [if_neg h]; simp [h]
theorem refC_iff {ms : List Pid} {K : List Pid → Bool} : ∀ {ls : List (List Pid)} {F : List Pid}, refC ms K F ls = true ↔ (∀ l ∈ ls, l ≠ [] ∧ risR ms l = true) ∧ K (F ++ heads ls) = true
  | [], F => by simp [refC, heads]
  | l :: r, F => by
    cases l with
    | nil => simp [refC]
    | cons p l =>
      simp only [refC]
      by_cases h : risR ms (p :: l) = true
      · rw [if_pos h, refC_iff]
        have e1 : F ++ [p] ++ heads r = F ++ heads ((p :: l) :: r) := by simp [heads]
        rw [e1]
        simp [h]
      · rw [if_neg h]; simp [h]

/-- the rank of p, if it is a member -/
def rankO (ms : List Pid) (p : Pid) : Option Int := if atIx ms p < 0 then none else some (atIx ms p)
theorem atFrom_ge {p : Pid} : ∀ {xs : List Pid} {k : Nat}, 0 ≤ atFrom p xs k → (k : Int) ≤ atFrom p xs k
  | [], k, h => by simp [atFrom] at h
  | x :: xs, k, h => by
    unfold atFrom at *
    split
    · omega
    · next hx => rw [if_neg hx] at h; have := atFrom_ge h; omega
theorem look_ranks {p : Pid} : ∀ {xs : List Pid} {S : List (Pid × Int)} {k : Nat}, look p (ranksFrom S xs k) = match look p S with | some v => some v | none => if atFrom p xs k < 0 then none else some (atFrom p xs k)
  | [], S, k => by
    simp only [ranksFrom, atFrom]
    cases look p S <;> simp
  | q :: l, S, k => by
    simp only [ranksFrom, atFrom]
    by_cases h : (look q S).isSome = true
    · rw [if_pos h, look_ranks]
      cases hp : look p S with
      | some v => rfl
      | none =>
        have : ¬ q = p := fun e => by subst e; rw [hp] at h; simp at h
        simp only [if_neg this]
    · rw [if_neg h, look_ranks, look_ins]
      by_cases hpq : p = q
      · subst hpq
        have : look p S = none := by simpa using h
        simp only [if_true, this]
        rw [if_neg (by omega)]
      · have : ¬ q = p := fun e => hpq e.symm
        simp only [if_neg hpq, if_neg this]
theorem look_ranksL {ms : List Pid} {p : Pid} : look p (ranksL ms) = rankO ms p := by
  unfold ranksL rankO atIx
  rw [look_ranks]
  rfl
theorem ris_eq (ms : List Pid) : ∀ (xs : List Pid) (pr : Option Pid) (last : Int), (∀ A, 0 ≤ A → prevGe ms pr A = decide (A ≤ last)) → risFrom (ranksL ms) last xs = risRFrom ms pr xs
  | [], _, _, _ => rfl
  | p :: l, pr, last, h => by
    simp only [risFrom, risRFrom, look_ranksL, rankO]
    by_cases hn : atIx ms p < 0
    · rw [if_pos hn, if_pos hn]
    · rw [if_neg hn, if_neg hn, h _ (by omega)]
      simp only [decide_eq_true_eq]
      by_cases hle : atIx ms p ≤ last
      · rw [if_pos hle, if_pos hle]
      · rw [if_neg hle, if_neg hle]
        exact ris_eq ms l (some p) (atIx ms p) (fun A _ => rfl)
theorem ris_same (ms xs : List Pid) : risFrom (ranksL ms) (-1) xs = risR ms xs :=
  ris_eq ms xs none (-1) fun A hA => by
    have : ¬ A ≤ -1 := by omega
    simp [prevGe, this]

/-! ### lists without repeats -/
theorem nodup_of_ids {ms : List Pid} (h : ms.Pairwise (fun p q => p.1 ≠ q.1)) : ms.Nodup := h.imp fun hne e => hne (by rw [e])
theorem nodup_len {l : List Pid} : ∀ {m : List Pid}, l.Nodup → (∀ x ∈ l, x ∈ m) → l.length ≤ m.length := by
  induction l with
  | nil => intro m _ _; simp
  | cons p l ih =>
    intro m hn hs
    rw [List.nodup_cons] at hn
    have hp := hs p (List.mem_cons_self ..)
    have h := ih (m := m.erase p) hn.2 (fun x hx => by
      have hne : x ≠ p := fun e => hn.1 (e ▸ hx)
      exact (List.mem_erase_of_ne hne).2 (hs x (List.mem_cons_of_mem _ hx)))
    rw [List.length_erase_of_mem hp] at h
    have := List.length_pos_of_mem hp
    simp only [List.length_cons]
    omega
theorem count_sum {l : List Pid} : ∀ {m : List Pid}, m.Nodup → (∀ x ∈ l, x ∈ m) → l.length = (m.map fun p => l.count p).sum := by
  induction l with
  | nil =>
    intro m _ _
    have : ∀ m : List Pid, (m.map fun p => ([] : List Pid).count p).sum = 0 := by
      intro m; induction m with
      | nil => rfl
      | cons a m ih => simp only [List.map_cons, List.sum_cons, ih]; simp
    rw [this]; rfl
  | cons q l ih =>
    intro m hm hs
    have h := ih hm (fun x hx => hs x (List.mem_cons_of_mem _ hx))
    have hq := hs q (List.mem_cons_self ..)
    have key : ∀ m : List Pid, m.Nodup → (m.map fun p => (q :: l).count p).sum = (m.map fun p => l.count p).sum + (if q ∈ m then 1 else 0) := by
      intro m
      induction m with
      | nil => intro _; simp
      | cons a m ihm =>
        intro hn
        rw [List.nodup_cons] at hn
        rw [List.map_cons, List.sum_cons, ihm hn.2, List.map_cons, List.sum_cons, List.count_cons]
        by_cases hqa : q = a
        · subst hqa
          simp only [beq_self_eq_true, if_true, if_neg hn.1, List.mem_cons, true_or]
          omega
        · have hb : (q == a) = false := by simpa using hqa
          simp only [hb, List.mem_cons, hqa, false_or, Bool.false_eq_true, if_false]
          omega
    rw [key m hm, if_pos hq, List.length_cons, h]
theorem sum_one : ∀ {m : List Pid} {f : Pid → Nat}, (∀ p ∈ m, f p = 1) → (m.map f).sum = m.length
  | [], _, _ => rfl
  | a :: m, f, h => by
    simp only [List.map_cons, List.sum_cons, List.length_cons, sum_one (fun p hp => h p (List.mem_cons_of_mem _ hp)), h a (List.mem_cons_self ..)]
    omega
/-- each member is met once, just if the lists have no repeat and as many elements as there are members -/
theorem count_iff {ms fl : List Pid} (hm : ms.Nodup) (hs : ∀ x ∈ fl, x ∈ ms) : (∀ p ∈ ms, fl.count p = 1) ↔ fl.length = ms.length ∧ fl.Nodup := by
  constructor
  · intro h
    refine ⟨by rw [count_sum hm hs, sum_one h], ?_⟩
    rw [List.nodup_iff_count]
    intro a
    by_cases ha : a ∈ fl
    · rw [h a (hs a ha)]; exact Nat.le_refl _
    · rw [List.count_eq_zero.2 ha]; omega
  · rintro ⟨hl, hn⟩ p hp
    have h1 := List.nodup_iff_count.1 hn p
    by_cases h0 : fl.count p = 0
    · exfalso
      have hnot : p ∉ fl := List.count_eq_zero.1 h0
      have := nodup_len (l := p :: fl) (m := ms) (List.nodup_cons.2 ⟨hnot, hn⟩) (fun x hx => by
        rcases List.mem_cons.1 hx with rfl | hx
        · exact hp
        · exact hs x hx)
      simp only [List.length_cons] at this
      omega
    · omega

theorem risR_mem {ms : List Pid} : ∀ {xs : List Pid} {pr : Option Pid}, risRFrom ms pr xs = true → ∀ x ∈ xs, x ∈ ms
  | p :: l, pr, h, x, hx => by
    unfold risRFrom at h
    split at h
    · simp at h
    · next hn =>
      split at h
      · simp at h
      · rcases List.mem_cons.1 hx with rfl | hx
        · unfold atIx at hn
          rw [atFrom_neg] at hn
          simpa using hn
        · exact risR_mem h x hx
theorem risR_gt {ms : List Pid} : ∀ {xs : List Pid} {q : Pid}, risRFrom ms (some q) xs = true → ∀ x ∈ xs, atIx ms q < atIx ms x
  | p :: l, q, h, x, hx => by
    unfold risRFrom at h
    split at h
    · simp at h
    · split at h
      · simp at h
      · next hn hp =>
        simp only [prevGe, decide_eq_true_eq, Int.not_le] at hp
        rcases List.mem_cons.1 hx with rfl | hx
        · exact hp
        · have := risR_gt h x hx; omega
theorem risR_nodup {ms : List Pid} : ∀ {xs : List Pid} {pr : Option Pid}, risRFrom ms pr xs = true → xs.Nodup
  | [], _, _ => List.nodup_nil
  | p :: l, pr, h => by
    unfold risRFrom at h
    split at h
    · simp at h
    · split at h
      · simp at h
      · refine List.nodup_cons.2 ⟨fun hp => ?_, risR_nodup h⟩
        have := risR_gt h p hp
        omega
theorem lens_ge : ∀ {ls : List (List Pid)}, (∀ l ∈ ls, l ≠ []) → ls.length ≤ lens ls
  | [], _ => by simp [lens]
  | l :: r, h => by
    have := lens_ge (ls := r) (fun x hx => h x (List.mem_cons_of_mem _ hx))
    have h0 := List.length_pos_iff.2 (h l (List.mem_cons_self ..))
    simp only [lens, List.map_cons, List.sum_cons, List.length_cons] at *
    omega
def WfPids (l : List Pid) : Prop := ∀ p ∈ l, 0 ≤ p.1 ∧ p.1 < 65536 ∧ 0 ≤ p.2 ∧ p.2 < 4294967296
theorem may_eq {p : Pid} (h : 0 ≤ p.2) : mayB p = mayR p := by
  unfold mayB mayR
  by_cases h0 : p.2 = 0
  · have : ¬ (0 < p.2) := by omega
    simp [h0]
  · have : 0 < p.2 := by omega
    simp [h0, this]

/-- view.Check is the document's -/
theorem check_eq (V : View) (hw : WfPids V.ms) : checkB V = refCheckB V := by
  rw [Bool.eq_iff_iff]
  have e1 : checkB V = true ↔ (1 ≤ V.id ∧ V.id ≤ 4611686018427387904) ∧ membersB V.ms = true ∧ (∀ l ∈ V.ls, l ≠ [] ∧ risR V.ms l = true) ∧ lens V.ls = V.ms.length ∧ V.ls.flatten.Nodup ∧ risR V.ms (heads V.ls) = true ∧ V.ds ≠ [] ∧ risR V.ms V.ds = true := by
    unfold checkB
    simp only [Bool.and_eq_true, decide_eq_true_eq, chkFrom_iff, chkEnd, ris_same, List.nil_append, Nat.zero_add]
    have hl := lens_flatten V.ls
    constructor
    · rintro ⟨a, b, c, d, e, f, g, h, i⟩
      exact ⟨⟨a, b⟩, c, d, e, unionL_nodup.1 (by omega), g, h, i⟩
    · rintro ⟨⟨a, b⟩, c, d, e, f, g, h, i⟩
      exact ⟨a, b, c, d, e, by rw [unionL_nodup.2 f, hl], g, h, i⟩
  have e2 : refCheckB V = true ↔ refG V = true ∧ ((refCB V = true ∧ ∀ p ∈ V.ms, V.ls.flatten.count p = 1) ∧ (∀ p ∈ V.ms, mayR p = true) ∧ V.ms.Pairwise (fun p q => p.1 ≠ q.1)) := by
    unfold refCheckB
    rw [Bool.and_eq_true]
    have := refA_iff (K := refB (refCB V) V.ls.flatten V.ms) (xs := V.ms) (pre := [])
    simp only [List.nil_append, List.length_nil, List.not_mem_nil, false_implies, implies_true, true_and] at this
    rw [this, refB_iff]
  have e3 : refCB V = true ↔ (∀ l ∈ V.ls, l ≠ [] ∧ risR V.ms l = true) ∧ risR V.ms (heads V.ls) = true ∧ risR V.ms V.ds = true := by
    unfold refCB
    rw [refC_iff]
    simp only [List.nil_append, Bool.and_eq_true]
  have e4 : membersB V.ms = true ↔ (0 < V.ms.length ∧ V.ms.length ≤ 24) ∧ (∀ p ∈ V.ms, mayR p = true) ∧ V.ms.Pairwise (fun p q => p.1 ≠ q.1) := by
    unfold membersB
    rw [memFrom_iff]
    simp only [keys, List.map_nil, List.not_mem_nil, not_false_eq_true, implies_true, and_true]
    constructor
    · rintro ⟨a, b, c⟩; exact ⟨a, fun p hp => by rw [← may_eq (hw p hp).2.2.1]; exact b p hp, c⟩
    · rintro ⟨a, b, c⟩; exact ⟨a, fun p hp => by rw [may_eq (hw p hp).2.2.1]; exact b p hp, c⟩
  rw [e1, e2, e3, e4]
  unfold refG
  simp only [Bool.and_eq_true, decide_eq_true_eq]
  have hl := lens_flatten V.ls
  constructor
  · rintro ⟨⟨a, b⟩, ⟨⟨c1, c2⟩, c3, c4⟩, d, e, f, g, h, i⟩
    have hmem : ∀ x ∈ V.ls.flatten, x ∈ V.ms := fun x hx => by
      obtain ⟨l, hl, hxl⟩ := List.mem_flatten.1 hx
      exact risR_mem (d l hl).2 x hxl
    have hls := lens_ge (fun l hl => (d l hl).1)
    have hds := List.length_pos_iff.2 h
    have hdl := nodup_len (risR_nodup i) (risR_mem i)
    exact ⟨⟨a, b, by omega, c2, by omega, by omega, hdl⟩, ⟨⟨d, g, i⟩, (count_iff (nodup_of_ids c4) hmem).2 ⟨by omega, f⟩⟩, c3, c4⟩
  · rintro ⟨⟨a, b, c1, c2, c3, c4, c5⟩, ⟨⟨d, g, i⟩, j⟩, k, l⟩
    have hmem : ∀ x ∈ V.ls.flatten, x ∈ V.ms := fun x hx => by
      obtain ⟨l, hl, hxl⟩ := List.mem_flatten.1 hx
      exact risR_mem (d l hl).2 x hxl
    obtain ⟨h1, h2⟩ := (count_iff (nodup_of_ids l) hmem).1 j
    exact ⟨⟨a, b⟩, ⟨⟨by omega, c2⟩, k, l⟩, d, by omega, h2, g, fun e => by rw [e] at c4; simp at c4, i⟩
end Go.Proofs.Ytbpfhclcjedkcaa
