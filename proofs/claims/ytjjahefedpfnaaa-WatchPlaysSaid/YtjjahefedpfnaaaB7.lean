import Derived.Test.YtjjahefedpfnaaaB4
namespace Go.Proofs.Ytjjahefedpfnaaa
open Go.RowKit
theorem OwnP.rowc {w : World} {base : Nat} {v : Value} {xs : List Pid} (h : OwnP w base v xs) : ∃ a c, v = .slice a xs.length c ∧ PidRow w a xs ∧ xs.length ≤ c := by
  obtain ⟨a, c, rfl, hr, -⟩ := h.row
  refine ⟨a, c, rfl, hr, ?_⟩
  rcases h.2 with ⟨h1, h2⟩ | ⟨g, cap, cur, h1, _, _, h2, _⟩
  · omega
  · injection h1 with _ _ h1; omega
/-! ### plain: the reference's sort -/
def aheadR (p q : Pid) : Bool := if p.1 = q.1 then decide (p.2 < q.2) else decide (p.1 < q.1)
def posR (x : Pid) : List Pid → Nat
  | [] => 0
  | q :: l => if aheadR q x then posR x l + 1 else 0
def insR (x : Pid) (L : List Pid) : List Pid := L.take (posR x L) ++ [x] ++ L.drop (posR x L)
def sortR : List Pid → List Pid → List Pid
  | acc, [] => acc
  | acc, x :: l => if x ∈ acc then sortR acc l else sortR (insR x acc) l
theorem posR_le {x : Pid} : ∀ {L : List Pid}, posR x L ≤ L.length
  | [] => Nat.le_refl _
  | q :: l => by
    unfold posR
    split
    · have := posR_le (x := x) (L := l); simp; omega
    · simp
theorem posR_drop {x : Pid} {L : List Pid} {k : Nat} (h : k < L.length) {q : Pid} (hq : q = L[k]) : posR x (L.drop k) = if aheadR q x then posR x (L.drop (k + 1)) + 1 else 0 := by
  rw [List.drop_eq_getElem_cons h, ← hq]; rfl
theorem sortR_drop {acc xs : List Pid} {k : Nat} (h : k < xs.length) {q : Pid} (hq : q = xs[k]) : sortR acc (xs.drop k) = if q ∈ acc then sortR acc (xs.drop (k + 1)) else sortR (insR q acc) (xs.drop (k + 1)) := by
  rw [List.drop_eq_getElem_cons h, ← hq]; rfl
theorem insR_len (x : Pid) (L : List Pid) : (insR x L).length = L.length + 1 := by
  have := posR_le (x := x) (L := L)
  unfold insR; simp; omega
theorem aheadR_ok {p q : Pid} (hp : ok p) (hq : ok q) : aheadR p q = ahead p q := by
  unfold aheadR ahead numOf
  unfold ok at hp hq
  split
  · next h => rw [h]; simp only [decide_eq_decide]; omega
  · next h => simp only [decide_eq_decide]; omega
theorem ahead_trans {p q r : Pid} (h1 : ahead p q = true) (h2 : ahead q r = true) : ahead p r = true := by
  simp [ahead] at *; omega
theorem mem_insR {x p : Pid} {L : List Pid} : p ∈ insR x L ↔ p = x ∨ p ∈ L := by
  have h : p ∈ L ↔ p ∈ L.take (posR x L) ∨ p ∈ L.drop (posR x L) := by
    rw [← List.mem_append, List.take_append_drop]
  unfold insR
  rw [h]; simp only [List.mem_append, List.mem_singleton]
  constructor
  · rintro ((h | h) | h)
    · exact .inr (.inl h)
    · exact .inl h
    · exact .inr (.inr h)
  · rintro (h | h | h)
    · exact .inl (.inr h)
    · exact .inl (.inl h)
    · exact .inr h
/-- sorted without twins, as the reference keeps its lists -/
def Ris (L : List Pid) : Prop := L.Pairwise fun p q => ahead p q = true
theorem insR_cons (x q : Pid) (l : List Pid) : insR x (q :: l) = if aheadR q x then q :: insR x l else x :: q :: l := by
  unfold insR
  by_cases h : aheadR q x = true
  · simp [posR, h]
  · simp [posR, h]
theorem insR_ris {x : Pid} (hx : ok x) : ∀ {L : List Pid}, (∀ p ∈ L, ok p) → x ∉ L → Ris L → Ris (insR x L)
  | [], _, _, _ => by simp [insR, posR, Ris]
  | q :: l, ho, hn, hr => by
    obtain ⟨h1, h2⟩ := List.pairwise_cons.1 hr
    have hq := ho q (List.mem_cons_self ..)
    rw [insR_cons, aheadR_ok hq hx]
    split
    · next ha =>
      refine List.pairwise_cons.2 ⟨fun z hz => ?_, insR_ris hx (fun p hp => ho p (List.mem_cons_of_mem _ hp)) (fun h => hn (List.mem_cons_of_mem _ h)) h2⟩
      rcases mem_insR.1 hz with rfl | hz
      · exact ha
      · exact h1 z hz
    · next ha =>
      have hne : numOf q ≠ numOf x := fun e => hn (by rw [numOf_inj hx hq e.symm]; exact List.mem_cons_self ..)
      have hxq : ahead x q = true := by simp [ahead] at ha ⊢; omega
      refine List.pairwise_cons.2 ⟨fun z hz => ?_, hr⟩
      rcases List.mem_cons.1 hz with rfl | hz
      · exact hxq
      · exact ahead_trans hxq (h1 z hz)
theorem mem_sortR {p : Pid} : ∀ {xs acc : List Pid}, p ∈ sortR acc xs ↔ p ∈ acc ∨ p ∈ xs
  | [], acc => by simp [sortR]
  | x :: l, acc => by
    unfold sortR
    split
    · next h =>
      rw [mem_sortR (xs := l)]
      constructor
      · rintro (h | h)
        · exact .inl h
        · exact .inr (List.mem_cons_of_mem _ h)
      · rintro (h' | h')
        · exact .inl h'
        · rcases List.mem_cons.1 h' with rfl | h'
          · exact .inl h
          · exact .inr h'
    · rw [mem_sortR (xs := l), mem_insR]
      simp only [List.mem_cons]
      constructor
      · rintro ((h | h) | h)
        · exact .inr (.inl h)
        · exact .inl h
        · exact .inr (.inr h)
      · rintro (h | h | h)
        · exact .inl (.inr h)
        · exact .inl (.inl h)
        · exact .inr h
theorem sortR_ris : ∀ {xs acc : List Pid}, (∀ p ∈ xs, ok p) → (∀ p ∈ acc, ok p) → Ris acc → Ris (sortR acc xs)
  | [], _, _, _, h => h
  | x :: l, acc, hx, ha, h => by
    unfold sortR
    have h1 := hx x (List.mem_cons_self ..)
    have h2 := fun p hp => hx p (List.mem_cons_of_mem x hp)
    split
    · exact sortR_ris h2 ha h
    · next hn =>
      refine sortR_ris h2 (fun p hp => ?_) (insR_ris h1 ha hn h)
      rcases mem_insR.1 hp with rfl | hp
      · exact h1
      · exact ha p hp
theorem Ris.nodup {L : List Pid} (h : Ris L) : L.Nodup := h.imp fun ha e => by subst e; simp [ahead] at ha
/-- two risen lists with the same members are one list -/
theorem Ris.eq {L M : List Pid} (hL : Ris L) (hM : Ris M) (h : ∀ p, p ∈ L ↔ p ∈ M) : L = M := by
  refine List.Perm.eq_of_pairwise (le := fun x y => ahead x y = true) ?_ hL hM ((List.perm_ext_iff_of_nodup hL.nodup hM.nodup).2 h)
  intro a b _ _ h1 h2
  simp [ahead] at h1 h2; omega
theorem sortL_ris {xs : List Pid} (hn : xs.Nodup) (hok : ∀ p ∈ xs, ok p) : Ris (sortL xs) := by
  have h1 := sortL_pairwise xs
  have h2 : (sortL xs).Nodup := (sortL_perm_self xs).nodup_iff.2 hn
  refine List.Pairwise.imp_of_mem ?_ (h1.and h2)
  rintro a b ha hb ⟨h3, h4⟩
  have : numOf a ≠ numOf b := fun e => h4 (numOf_inj (hok a (mem_sortL.1 ha)) (hok b (mem_sortL.1 hb)) e)
  simp [ahead] at h3 ⊢; omega
theorem sortR_eq {xs : List Pid} (hok : ∀ p ∈ xs, ok p) : sortR [] xs = sortP xs := by
  refine (sortR_ris hok (by simp) List.Pairwise.nil).eq (sortL_ris (dedup_is_nodup xs) fun p hp => hok p (mem_dedup.1 hp)) fun p => ?_
  rw [mem_sortR, sortP, mem_sortL, mem_dedup]; simp

/-! ### the walk -/
set_option maxRecDepth 100000 in
theorem aheadR_any (a b c d : Int) (w : World) : Calls Try.prog 69 #[.agg #[.int .u16 a, .int .u32 b], .agg #[.int .u16 c, .int .u32 d]] w fun e w' => e = .returned (.bool (aheadR (a, b) (c, d))) ∧ Below w.heap.size w w' := by
  by_cases h : a = c
  · subst h
    go_enter Try.func69, Try.ntmps69
    go_wp2
    go_ret
    exact ⟨by simp [aheadR], (((Below.refl _ _).alloc (Nat.le_refl _) _).alloc (by simp) _)⟩
  · have h1 : (a != c) = true := by simpa using h
    go_enter Try.func69, Try.ntmps69
    go_wp2
    go_ret
    exact ⟨by simp [aheadR, h], (((Below.refl _ _).alloc (Nat.le_refl _) _).alloc (by simp) _)⟩
theorem aheadR_is {a b c d : Int} {w : World} {r : Bool} (h : Hid (aheadR (a, b) (c, d) = r)) : Calls Try.prog 69 #[.agg #[.int .u16 a, .int .u32 b], .agg #[.int .u16 c, .int .u32 d]] w fun e w' => e = .returned (.bool r) ∧ Below w.heap.size w w' := by
  rw [← h.out]; exact aheadR_any a b c d w
end Go.Proofs.Ytjjahefedpfnaaa
