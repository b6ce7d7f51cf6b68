import Derived.Test.YtbpfhclcjedkcaaXE
import Derived.Test.YtbpfhclcjedkcaaR2
namespace Go.Proofs.Ytbpfhclcjedkcaa
open Go.RowKit
/-! ### the forms, and the readers, in plain words -/
def pidsF (l : List Pid) : List Nat := short l.length ++ l.flatMap pidF
def rankF (ms : List Pid) (p : Pid) : List Nat := short (atIx ms p).toNat
def placesF (ms l : List Pid) : List Nat := short l.length ++ l.flatMap (rankF ms)
def viewF (V : View) : List Nat := short V.id.toNat ++ (pidsF V.ms ++ (short V.ls.length ++ (V.ls.flatMap (placesF V.ms) ++ placesF V.ms V.ds)))
/-- what is left to read, and what stopped it -/
structure RS where
  b : List Nat
  e : Nat
def rNum (most : Nat) (s : RS) : Nat × RS :=
  if s.e ≠ 0 then (0, s)
  else if (getS s.b).2.2 ≠ 0 then (0, ⟨s.b, (getS s.b).2.2⟩)
  else if most < (getS s.b).1 then (0, ⟨s.b, 3⟩)
  else ((getS s.b).1, ⟨s.b.drop (getS s.b).2.1, 0⟩)
def rPid (s : RS) : Pid × RS :=
  if s.e ≠ 0 then ((0, 0), s)
  else if (getP s.b).2.2 ≠ 0 then ((0, 0), ⟨s.b, (getP s.b).2.2⟩)
  else ((getP s.b).1, ⟨s.b.drop (getP s.b).2.1, 0⟩)
def rPidsN : Nat → RS → List Pid × RS
  | 0, s => ([], s)
  | n + 1, s => if s.e ≠ 0 then ([], s) else ((rPid s).1 :: (rPidsN n (rPid s).2).1, (rPidsN n (rPid s).2).2)
def rPids (most : Nat) (s : RS) : List Pid × RS :=
  if s.e ≠ 0 then ([], s)
  else if (rPidsN (rNum most s).1 (rNum most s).2).2.e ≠ 0 then ([], ⟨s.b, (rPidsN (rNum most s).1 (rNum most s).2).2.e⟩)
  else rPidsN (rNum most s).1 (rNum most s).2
def rBytes (most : Nat) (s : RS) : List Nat × RS :=
  if s.e ≠ 0 then ([], s)
  else if (rNum most s).2.e ≠ 0 then ([], ⟨s.b, (rNum most s).2.e⟩)
  else if (rNum most s).2.b.length < (rNum most s).1 then ([], ⟨s.b, 2⟩)
  else ((rNum most s).2.b.take (rNum most s).1, ⟨(rNum most s).2.b.drop (rNum most s).1, 0⟩)
def rPlacesN (ms : List Pid) : Nat → RS → List Pid × RS
  | 0, s => ([], s)
  | n + 1, s =>
    if s.e ≠ 0 then ([], s)
    else if ms = [] then ([], ⟨s.b, 3⟩)
    else (ms.getD (rNum (ms.length - 1) s).1 (0, 0) :: (rPlacesN ms n (rNum (ms.length - 1) s).2).1, (rPlacesN ms n (rNum (ms.length - 1) s).2).2)
def rPlaces (ms : List Pid) (s : RS) : List Pid × RS := rPlacesN ms (rNum 24 s).1 (rNum 24 s).2
def rLeaves (ms : List Pid) : Nat → RS → List (List Pid) × RS
  | 0, s => ([], s)
  | n + 1, s => if s.e ≠ 0 then ([], s) else ((rPlaces ms s).1 :: (rLeaves ms n (rPlaces ms s).2).1, (rLeaves ms n (rPlaces ms s).2).2)
/-- the parts of a view, and the reader behind them -/
def rParts (s : RS) : View × RS :=
  let a := rNum 4611686018427387904 s
  let m := rPids 24 a.2
  let n := rNum 24 m.2
  let l := rLeaves m.1 n.1 n.2
  let d := rPlaces m.1 l.2
  (⟨(a.1 : Nat), m.1, l.1, d.1⟩, d.2)
def zeroV : View := ⟨0, [], [], []⟩
def rView (s : RS) : View × RS :=
  if (rParts s).2.e ≠ 0 then (zeroV, (rParts s).2)
  else if refCheckB (rParts s).1 = false then (zeroV, ⟨(rParts s).2.b, 5⟩)
  else rParts s
/-! ### what was laid is read as it was -/
theorem rNum_back {n most : Nat} (h : n ≤ most) (hb : n < 18446744073709551616) (r : List Nat) : rNum most ⟨short n ++ r, 0⟩ = (n, ⟨r, 0⟩) := by
  unfold rNum
  simp only [getS_short hb]
  rw [if_neg (by simp), if_neg (by simp), if_neg (by omega)]
  simp
theorem rPid_back {p : Pid} (h : okP p) (r : List Nat) : rPid ⟨pidF p ++ r, 0⟩ = (p, ⟨r, 0⟩) := by
  unfold rPid
  simp only [getP_back h]
  rw [if_neg (by simp), if_neg (by simp)]
  simp
theorem rPidsN_back : ∀ {l : List Pid} (r : List Nat), (∀ p ∈ l, okP p) → rPidsN l.length ⟨l.flatMap pidF ++ r, 0⟩ = (l, ⟨r, 0⟩)
  | [], r, _ => by simp [rPidsN]
  | p :: l, r, h => by
    have e := rPid_back (h p (List.mem_cons_self ..)) (l.flatMap pidF ++ r)
    have ih := rPidsN_back (l := l) r (fun q hq => h q (List.mem_cons_of_mem _ hq))
    rw [List.flatMap_cons, List.append_assoc]
    simp only [List.length_cons, rPidsN, e, ih]
    rw [if_neg (by simp)]
theorem rPids_back {l : List Pid} {most : Nat} (r : List Nat) (h : ∀ p ∈ l, okP p) (hl : l.length ≤ most) (hm : most < 18446744073709551616) : rPids most ⟨pidsF l ++ r, 0⟩ = (l, ⟨r, 0⟩) := by
  unfold rPids pidsF
  rw [List.append_assoc]
  simp only [rNum_back hl (by omega), rPidsN_back r h]
  rw [if_neg (by simp), if_neg (by simp)]
theorem rBytes_back {l : List Nat} {most : Nat} (r : List Nat) (hl : l.length ≤ most) (hm : most < 18446744073709551616) : rBytes most ⟨short l.length ++ (l ++ r), 0⟩ = (l, ⟨r, 0⟩) := by
  unfold rBytes
  simp only [rNum_back hl (by omega)]
  rw [if_neg (by simp), if_neg (by simp), if_neg (by simp)]
  simp
theorem atIx_get {ms : List Pid} {p : Pid} (h : p ∈ ms) : 0 ≤ atIx ms p ∧ (atIx ms p).toNat < ms.length ∧ ms.getD (atIx ms p).toNat (0, 0) = p := by
  have key : ∀ (xs : List Pid) (k : Nat), p ∈ xs → ∃ j : Nat, j < xs.length ∧ atFrom p xs k = ((k + j : Nat) : Int) ∧ xs.getD j (0, 0) = p := by
    intro xs
    induction xs with
    | nil => intro k h; cases h
    | cons x r ih =>
      intro k h
      unfold atFrom
      by_cases hx : x = p
      · exact ⟨0, by simp, by rw [if_pos hx]; simp, by simpa using hx⟩
      · rw [if_neg hx]
        have hr : p ∈ r := by
          rcases List.mem_cons.1 h with h | h
          · exact absurd h.symm hx
          · exact h
        obtain ⟨j, h1, h2, h3⟩ := ih (k + 1) hr
        exact ⟨j + 1, by simpa using h1, by rw [h2]; congr 1; omega, by simpa using h3⟩
  obtain ⟨j, h1, h2, h3⟩ := key ms 0 h
  unfold atIx
  rw [h2]
  simp only [Nat.zero_add, Int.toNat_natCast]
  exact ⟨by omega, h1, h3⟩
theorem rPlacesN_back {ms : List Pid} (hm : ms.length < 18446744073709551616) : ∀ {l : List Pid} (r : List Nat), (∀ p ∈ l, p ∈ ms) → rPlacesN ms l.length ⟨l.flatMap (rankF ms) ++ r, 0⟩ = (l, ⟨r, 0⟩)
  | [], r, _ => by simp [rPlacesN]
  | p :: l, r, h => by
    obtain ⟨h0, h1, h2⟩ := atIx_get (h p (List.mem_cons_self ..))
    have ih := rPlacesN_back hm (l := l) r (fun q hq => h q (List.mem_cons_of_mem _ hq))
    have e : rNum (ms.length - 1) ⟨rankF ms p ++ (l.flatMap (rankF ms) ++ r), 0⟩ = ((atIx ms p).toNat, ⟨l.flatMap (rankF ms) ++ r, 0⟩) := rNum_back (by omega) (by omega) _
    have hne : ms ≠ [] := by intro e; subst e; simp at h1
    rw [List.flatMap_cons, List.append_assoc]
    simp only [List.length_cons, rPlacesN, e, ih, h2]
    rw [if_neg (by simp), if_neg hne]
theorem rPlaces_back {ms l : List Pid} (r : List Nat) (hm : ms.length < 18446744073709551616) (hs : ∀ p ∈ l, p ∈ ms) (hl : l.length ≤ 24) : rPlaces ms ⟨placesF ms l ++ r, 0⟩ = (l, ⟨r, 0⟩) := by
  unfold rPlaces placesF
  rw [List.append_assoc]
  simp only [rNum_back hl (by omega), rPlacesN_back hm r hs]
theorem rLeaves_back {ms : List Pid} (hm : ms.length < 18446744073709551616) : ∀ {ls : List (List Pid)} (r : List Nat), (∀ l ∈ ls, (∀ p ∈ l, p ∈ ms) ∧ l.length ≤ 24) → rLeaves ms ls.length ⟨ls.flatMap (placesF ms) ++ r, 0⟩ = (ls, ⟨r, 0⟩)
  | [], r, _ => by simp [rLeaves]
  | l :: ls, r, h => by
    obtain ⟨h1, h2⟩ := h l (List.mem_cons_self ..)
    have ih := rLeaves_back hm (ls := ls) r (fun q hq => h q (List.mem_cons_of_mem _ hq))
    rw [List.flatMap_cons, List.append_assoc]
    simp only [List.length_cons, rLeaves, rPlaces_back _ hm h1 h2, ih]
    rw [if_neg (by simp)]
/-- a view that may be, as far as its form needs it -/
structure Laid (V : View) : Prop where
  id0 : 0 ≤ V.id
  id1 : V.id ≤ 4611686018427387904
  wf : ∀ p ∈ V.ms, okP p
  lm : V.ms.length ≤ 24
  ll : V.ls.length ≤ 24
  le : ∀ l ∈ V.ls, (∀ p ∈ l, p ∈ V.ms) ∧ l.length ≤ 24
  ld : (∀ p ∈ V.ds, p ∈ V.ms) ∧ V.ds.length ≤ 24
theorem rParts_back {V : View} (h : Laid V) (r : List Nat) : rParts ⟨viewF V ++ r, 0⟩ = (V, ⟨r, 0⟩) := by
  unfold rParts viewF
  simp only [List.append_assoc]
  have hi := h.id0
  have hi2 := h.id1
  have hm : V.ms.length < 18446744073709551616 := by have := h.lm; omega
  have hl := h.ll
  simp only [rNum_back (show V.id.toNat ≤ 4611686018427387904 by omega) (by omega), rPids_back _ h.wf h.lm (by decide), rNum_back h.ll (by omega), rLeaves_back hm _ h.le, rPlaces_back _ hm h.ld.1 h.ld.2]
  rw [show ((V.id.toNat : Nat) : Int) = V.id by omega]
theorem rView_back {V : View} (h : Laid V) (hc : refCheckB V = true) (r : List Nat) : rView ⟨viewF V ++ r, 0⟩ = (V, ⟨r, 0⟩) := by
  unfold rView
  simp only [rParts_back h]
  rw [if_neg (by simp), hc]; simp
end Go.Proofs.Ytbpfhclcjedkcaa
