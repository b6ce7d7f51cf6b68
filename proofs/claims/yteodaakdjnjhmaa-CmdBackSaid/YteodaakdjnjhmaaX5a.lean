import Derived.Test.YteodaakdjnjhmaaX1
namespace Go.Proofs.Yteodaakdjnjhmaa
open Go.RowKit
/-! ### a process's form in plain words -/
def pidF (p : Pid) : List Nat := short p.1.toNat ++ short p.2.toNat
def getP (b : List Nat) : Pid × Nat × Nat :=
  if (getS b).2.2 ≠ 0 then ((0, 0), 0, (getS b).2.2)
  else if (getS (b.drop (getS b).2.1)).2.2 ≠ 0 then ((0, 0), 0, (getS (b.drop (getS b).2.1)).2.2)
  else if 65535 < (getS b).1 ∨ 4294967295 < (getS (b.drop (getS b).2.1)).1 then ((0, 0), 0, 5)
  else ((((getS b).1 : Nat), ((getS (b.drop (getS b).2.1)).1 : Nat)), (getS b).2.1 + (getS (b.drop (getS b).2.1)).2.1, 0)
def okP (p : Pid) : Prop := 0 ≤ p.1 ∧ p.1 < 65536 ∧ 0 ≤ p.2 ∧ p.2 < 4294967296
theorem getP_back {p : Pid} (h : okP p) (r : List Nat) : getP (pidF p ++ r) = (p, (pidF p).length, 0) := by
  obtain ⟨h1, h2, h3, h4⟩ := h
  have e1 : getS (pidF p ++ r) = (p.1.toNat, (short p.1.toNat).length, 0) := by
    unfold pidF; rw [List.append_assoc]; exact getS_short (by omega) _
  have e2 : (pidF p ++ r).drop (short p.1.toNat).length = short p.2.toNat ++ r := by unfold pidF; rw [List.append_assoc, List.drop_left]
  have e3 : getS (short p.2.toNat ++ r) = (p.2.toNat, (short p.2.toNat).length, 0) := getS_short (by omega) _
  unfold getP
  simp only [e1, e2, e3]
  rw [if_neg (by simp), if_neg (by simp), if_neg (by omega)]
  have q1 : ((p.1.toNat : Nat) : Int) = p.1 := by omega
  have q2 : ((p.2.toNat : Nat) : Int) = p.2 := by omega
  rw [q1, q2]
  simp [pidF]
end Go.Proofs.Yteodaakdjnjhmaa
