import Derived.Test.YtjjahefedpfnaaaE1
namespace Go.Proofs.Ytjjahefedpfnaaa
/-! ### who speaks with whom, in plain words -/
def optP : Option Pid → Pid × Bool
  | none => ((0, 0), false)
  | some p => (p, true)
def soundL (S : Pid → Bool) (l : List Pid) : List Pid := l.filter fun p => !S p
def firstP (S : Pid → Bool) (l : List Pid) : Option Pid := (soundL S l).head?
def chiefP (V : View) (S : Pid → Bool) : Option Pid := firstP S V.ds
def speakP (V : View) (S : Pid → Bool) (k : Int) : Option Pid := if k < 0 then none else match V.ls[k.toNat]? with | none => none | some l => firstP S l
def speaksB (V : View) (S : Pid → Bool) (p : Pid) : Bool := decide (speakP V S (leafIx V.ls p) = some p)
def isChiefB (V : View) (S : Pid → Bool) (p : Pid) : Bool := decide (chiefP V S = some p)
def upP (V : View) (S : Pid → Bool) (p : Pid) : Option Pid :=
  if (!decide (p ∈ V.ms) || isChiefB V S p) = true then none else
  match speakP V S (leafIx V.ls p) with
  | some q => if q = p then chiefP V S else some q
  | none => chiefP V S
def speakersP (V : View) (S : Pid → Bool) : List Pid := V.ls.filterMap (firstP S)
def leafP (V : View) (p : Pid) : List Pid := if leafIx V.ls p < 0 then [] else V.ls.getD (leafIx V.ls p).toNat []
def othersP (V : View) (p : Pid) (L : List (List Pid)) : List Pid := V.ms.filter fun q => decide (q ∈ L.flatten) && !decide (q = p)
def downL (V : View) (S : Pid → Bool) (p : Pid) : List (List Pid) := (if isChiefB V S p = true then [speakersP V S] else []) ++ (if speaksB V S p = true then [leafP V p] else [])
def downP (V : View) (S : Pid → Bool) (p : Pid) : List Pid := othersP V p (downL V S p)
def peersL (V : View) (p : Pid) : List (List Pid) := [leafP V p] ++ (if p ∈ V.ds then [V.ds] else [])
def peersP (V : View) (p : Pid) : List Pid := if p ∈ V.ms then othersP V p (peersL V p) else []
def beatsL (V : View) (S : Pid → Bool) (p : Pid) : List (List Pid) := [peersP V p] ++ (if isChiefB V S p = true then [speakersP V S] else []) ++ (if speaksB V S p = true then [V.ds] else [])
def beatsP (V : View) (S : Pid → Bool) (p : Pid) : List Pid := othersP V p (beatsL V S p)

/-! ### the reference's -/
theorem mem_speakers {V : View} {S : Pid → Bool} {q : Pid} : q ∈ speakersP V S ↔ ∃ l ∈ V.ls, firstP S l = some q := by
  simp [speakersP, List.mem_filterMap]
theorem firstP_mem {S : Pid → Bool} {l : List Pid} {q : Pid} (h : firstP S l = some q) : q ∈ l ∧ S q = false := by
  have := List.mem_of_mem_head? (a := q) (l := soundL S l) (by rw [show (soundL S l).head? = _ from h]; simp)
  simpa [soundL] using this
theorem firstP_some {S : Pid → Bool} {l : List Pid} {q : Pid} (h : q ∈ l) (hs : S q = false) : ∃ s, firstP S l = some s := by
  have hm : q ∈ soundL S l := by simp [soundL, h, hs]
  unfold firstP
  cases hh : soundL S l with
  | nil => rw [hh] at hm; cases hm
  | cons a r => exact ⟨a, rfl⟩

/-! ### what a view that may be is -/
structure GoodV (V : View) : Prop where
  nd : V.ms.Nodup
  one : ∀ p ∈ V.ms, V.ls.flatten.count p = 1
  sub : ∀ l ∈ V.ls, ∀ p ∈ l, p ∈ V.ms
  dsub : ∀ p ∈ V.ds, p ∈ V.ms
  len : V.ms.length ≤ 24
  llen : V.ls.length ≤ 24
  le : ∀ l ∈ V.ls, l.length ≤ 24
  ld : V.ds.length ≤ 24
theorem good_of_check {V : View} (h : refCheckB V = true) : GoodV V := by
  unfold refCheckB at h
  simp only [Bool.and_eq_true] at h
  obtain ⟨hg, ha⟩ := h
  unfold refG at hg
  simp only [Bool.and_eq_true, decide_eq_true_eq] at hg
  obtain ⟨g1, g2, g3, g4, g5, g6, g7⟩ := hg
  have ha' := (refA_iff (K := refB (refCB V) V.ls.flatten V.ms) (xs := V.ms) (pre := [])).1 (by simpa using ha)
  obtain ⟨hk, hm, _, hp⟩ := ha'
  obtain ⟨hc, ho⟩ := refB_iff.1 hk
  unfold refCB at hc
  obtain ⟨hl, hr⟩ := refC_iff.1 hc
  simp only [Bool.and_eq_true] at hr
  have nd := nodup_of_ids hp
  have sub : ∀ l ∈ V.ls, ∀ p ∈ l, p ∈ V.ms := fun l hl' p hp' => risR_mem (hl l hl').2 p hp'
  have dsub : ∀ p ∈ V.ds, p ∈ V.ms := fun p hp' => risR_mem hr.2 p hp'
  refine ⟨nd, ho, sub, dsub, g4, by omega, fun l hl' => ?_, ?_⟩
  · have := nodup_len (risR_nodup (hl l hl').2) (sub l hl'); omega
  · have := nodup_len (risR_nodup hr.2) dsub; omega
theorem leafFrom_none {p : Pid} : ∀ {ls : List (List Pid)} {k : Nat}, leafFrom p ls k < 0 ↔ p ∉ ls.flatten
  | [], _ => by simp [leafFrom]
  | x :: xs, k => by
    unfold leafFrom
    split
    · next h => simp [h]
    · next h => rw [leafFrom_none]; simp [h]
theorem leafFrom_get {p : Pid} : ∀ {ls : List (List Pid)} {k : Nat} {j : Int}, leafFrom p ls k = j → 0 ≤ j → ∃ i l, j = ((k + i : Nat) : Int) ∧ ls[i]? = some l ∧ p ∈ l
  | [], _, _, h, h0 => by simp [leafFrom] at h; omega
  | x :: xs, k, j, h, h0 => by
    unfold leafFrom at h
    split at h
    · next hx => exact ⟨0, x, by simpa using h.symm, rfl, hx⟩
    · next hx =>
      obtain ⟨i, l, hj, hl, hp⟩ := leafFrom_get h h0
      exact ⟨i + 1, l, by rw [hj]; congr 1; omega, by simpa using hl, hp⟩
/-- of lists that hold somebody just once, any that holds it is the one at its leaf's place -/
theorem leafFrom_at {p : Pid} : ∀ {ls : List (List Pid)} {k i : Nat} {l : List Pid}, ls.flatten.count p = 1 → ls[i]? = some l → p ∈ l → leafFrom p ls k = ((k + i : Nat) : Int)
  | [], _, _, _, _, h, _ => by simp at h
  | x :: xs, k, 0, l, hc, h, hp => by
    simp at h; subst h
    simp [leafFrom, hp]
  | x :: xs, k, i + 1, l, hc, h, hp => by
    have hl : l ∈ xs := List.mem_of_getElem? (by simpa using h)
    have h1 : 0 < xs.flatten.count p := List.count_pos_iff.2 (List.mem_flatten.2 ⟨l, hl, hp⟩)
    rw [List.flatten_cons, List.count_append] at hc
    have h0 : x.count p = 0 := by omega
    have hx : p ∉ x := List.count_eq_zero.1 h0
    unfold leafFrom
    rw [if_neg hx, leafFrom_at (by omega) (by simpa using h) hp]
    congr 1; omega
section
variable {V : View} {S : Pid → Bool} (hV : GoodV V)
include hV
theorem leaf_some {p : Pid} (hp : p ∈ V.ms) : ∃ (i : Nat) (l : List Pid), leafIx V.ls p = (i : Int) ∧ V.ls[i]? = some l ∧ p ∈ l := by
  have hn : ¬ leafFrom p V.ls 0 < 0 := by
    rw [leafFrom_none]; have := hV.one p hp
    intro h; rw [List.count_eq_zero.2 h] at this; omega
  obtain ⟨i, l, hj, hl, hpl⟩ := leafFrom_get (p := p) (ls := V.ls) (k := 0) rfl (by omega)
  exact ⟨i, l, by unfold leafIx; rw [hj]; simp, hl, hpl⟩
theorem leaf_at {p : Pid} {i : Nat} {l : List Pid} (hl : V.ls[i]? = some l) (hp : p ∈ l) : leafIx V.ls p = (i : Int) := by
  have hm := hV.sub l (List.mem_of_getElem? hl) p hp
  unfold leafIx
  rw [leafFrom_at (hV.one p hm) hl hp]; simp
theorem leafP_at {p : Pid} {i : Nat} {l : List Pid} (hl : V.ls[i]? = some l) (hp : p ∈ l) : leafP V p = l := by
  unfold leafP
  rw [leaf_at hV hl hp, if_neg (by omega)]
  simp [hl]
theorem speak_at {p : Pid} {i : Nat} {l : List Pid} (hl : V.ls[i]? = some l) (hp : p ∈ l) : speakP V S (leafIx V.ls p) = firstP S l := by
  unfold speakP
  rw [leaf_at hV hl hp, if_neg (by omega)]
  simp [hl]

theorem peers_law {p q : Pid} (hp : p ∈ V.ms) (hq : q ∈ peersP V p) : q ≠ p ∧ p ∈ peersP V q ∧ p ∈ beatsP V S q := by
  unfold peersP at hq
  rw [if_pos hp] at hq
  unfold othersP at hq
  simp only [List.mem_filter, Bool.and_eq_true, decide_eq_true_eq, Bool.not_eq_true', decide_eq_false_iff_not] at hq
  obtain ⟨hqm, hf, hne⟩ := hq
  have hpq : p ∈ peersP V q := by
    unfold peersP
    rw [if_pos hqm]
    unfold othersP
    simp only [List.mem_filter, Bool.and_eq_true, decide_eq_true_eq, Bool.not_eq_true', decide_eq_false_iff_not]
    refine ⟨hp, ?_, fun e => hne e.symm⟩
    obtain ⟨i, l, hi, hl, hpl⟩ := leaf_some hV hp
    have hpL := leafP_at hV hl hpl
    unfold peersL at hf ⊢
    simp only [List.flatten_append, List.flatten_cons, List.flatten_nil, List.append_nil, List.mem_append] at hf ⊢
    rcases hf with hf | hf
    · left
      rw [hpL] at hf
      rw [leafP_at hV hl hf]; exact hpl
    · right
      by_cases hd : p ∈ V.ds
      · rw [if_pos hd] at hf
        have hqd : q ∈ V.ds := by simpa using hf
        rw [if_pos hqd]; simpa using hd
      · rw [if_neg hd] at hf; simp at hf
  refine ⟨hne, hpq, ?_⟩
  unfold beatsP othersP beatsL
  simp only [List.mem_filter, Bool.and_eq_true, decide_eq_true_eq, Bool.not_eq_true', decide_eq_false_iff_not]
  refine ⟨hp, ?_, fun e => hne e.symm⟩
  simp only [List.flatten_append, List.mem_append]
  left; left
  simpa using hpq

/-- in two steps at most -/
theorem up_law {c p : Pid} (hc : chiefP V S = some c) (hp : p ∈ V.ms) (hne : p ≠ c) : ∃ q, upP V S p = some q ∧ (q ≠ c → upP V S q = some c) := by
  obtain ⟨i, l, hi, hl, hpl⟩ := leaf_some hV hp
  have hs := speak_at (S := S) hV hl hpl
  have hch : isChiefB V S p = false := by simp [isChiefB, hc]; exact fun e => hne e.symm
  unfold upP
  rw [if_neg (by simp [hp, hch]), hs]
  cases hf : firstP S l with
  | none => exact ⟨c, hc, fun h => absurd rfl h⟩
  | some q =>
    by_cases hqp : q = p
    · simp only [if_pos hqp]
      exact ⟨c, hc, fun h => absurd rfl h⟩
    · simp only [if_neg hqp]
      refine ⟨q, rfl, fun hqc => ?_⟩
      have hql := (firstP_mem hf).1
      have hqm := hV.sub l (List.mem_of_getElem? hl) q hql
      have hch2 : isChiefB V S q = false := by simp [isChiefB, hc]; exact fun e => hqc e.symm
      rw [if_neg (by simp [hqm, hch2]), speak_at (S := S) hV hl hql, hf]
      simp only [if_true]
      exact hc

theorem down_law {c m : Pid} (hc : chiefP V S = some c) (hm : m ∈ V.ms) (hs : S m = false) : m = c ∨ m ∈ downP V S c ∨ ∃ s, (s = c ∨ s ∈ downP V S c) ∧ m ∈ downP V S s := by
  obtain ⟨i, l, hi, hl, hml⟩ := leaf_some hV hm
  obtain ⟨s, hf⟩ := firstP_some hml hs
  have hsl := (firstP_mem hf).1
  have hlm := List.mem_of_getElem? hl
  have hsm := hV.sub l hlm s hsl
  have hsp : speaksB V S s = true := by simp [speaksB, speak_at (S := S) hV hl hsl, hf]
  have hms : m = s ∨ m ∈ downP V S s := by
    by_cases e : m = s
    · exact .inl e
    · right
      unfold downP othersP downL
      simp only [List.mem_filter, Bool.and_eq_true, decide_eq_true_eq, Bool.not_eq_true', decide_eq_false_iff_not]
      refine ⟨hm, ?_, e⟩
      rw [if_pos hsp, leafP_at hV hl hsl]
      simp [hml]
  by_cases e : s = c
  · subst e
    rcases hms with h | h
    · exact .inl h
    · exact .inr (.inl h)
  · have hsd : s ∈ downP V S c := by
      unfold downP othersP downL
      simp only [List.mem_filter, Bool.and_eq_true, decide_eq_true_eq, Bool.not_eq_true', decide_eq_false_iff_not]
      refine ⟨hsm, ?_, e⟩
      rw [if_pos (by simp [isChiefB, hc])]
      simp only [List.flatten_append, List.flatten_cons, List.flatten_nil, List.append_nil, List.mem_append]
      exact .inl (mem_speakers.2 ⟨l, hlm, hf⟩)
    rcases hms with h | h
    · subst h; exact .inr (.inl hsd)
    · exact .inr (.inr ⟨s, .inr hsd, h⟩)
end
end Go.Proofs.Ytjjahefedpfnaaa
