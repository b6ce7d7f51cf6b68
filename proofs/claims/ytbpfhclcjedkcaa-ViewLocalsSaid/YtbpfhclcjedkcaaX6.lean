import Derived.Test.YtbpfhclcjedkcaaX5
namespace Go.Proofs.Ytbpfhclcjedkcaa
open Go.RowKit
/-! ### commands and beats in plain words -/
instance : DecidableEq View := fun a b => by
  obtain ⟨a1, a2, a3, a4⟩ := a
  obtain ⟨b1, b2, b3, b4⟩ := b
  exact decidable_of_iff (a1 = b1 ∧ a2 = b2 ∧ a3 = b3 ∧ a4 = b4) (by simp)
structure CmdD where
  kind : Int
  fr : Pid
  num : Nat
  vw : Nat
  data : List Nat
  v : View
def mayP (p : Pid) : Bool := decide (p.1 < 16) && decide (0 < p.2)
def cntB (n : Nat) : Bool := decide (1 ≤ n) && decide (n ≤ 4611686018427387904)
/-- P9.1: 0: it may be -/
def cmdChk (c : CmdD) : Nat :=
  if c.kind = 1 then (if c.fr = (0, 0) ∧ c.num = 0 ∧ c.vw = 0 ∧ c.data = [] ∧ c.v = zeroV then 0 else 1)
  else if c.kind = 2 then (if mayP c.fr = true ∧ cntB c.num = true ∧ cntB c.vw = true ∧ c.v = zeroV then (if 200 < c.data.length then 14 else 0) else 1)
  else if c.kind = 3 then (if c.fr = (0, 0) ∧ c.num = 0 ∧ c.vw = 0 ∧ c.data = [] ∧ refCheckB c.v = true then 0 else 1)
  else 1
def cmdF (c : CmdD) : List Nat :=
  short c.kind.toNat ++ (if c.kind = 2 then pidF c.fr ++ (short c.num ++ (short c.vw ++ (short c.data.length ++ c.data))) else if c.kind = 3 then viewF c.v else [])
def zeroC : CmdD := ⟨0, (0, 0), 0, 0, [], zeroV⟩
def rCmdParts (s : RS) : CmdD × RS :=
  let k := rNum 3 s
  if k.1 = 2 then
    let f := rPid k.2
    let n := rNum 4611686018427387904 f.2
    let w := rNum 4611686018427387904 n.2
    let d := rBytes 200 w.2
    (⟨(k.1 : Nat), f.1, n.1, w.1, d.1, zeroV⟩, d.2)
  else if k.1 = 3 then (⟨(k.1 : Nat), (0, 0), 0, 0, [], (rView k.2).1⟩, (rView k.2).2)
  else (⟨(k.1 : Nat), (0, 0), 0, 0, [], zeroV⟩, k.2)
def rCmd (s : RS) : CmdD × RS :=
  if (rCmdParts s).2.e ≠ 0 then (zeroC, (rCmdParts s).2)
  else if cmdChk (rCmdParts s).1 ≠ 0 then (zeroC, ⟨(rCmdParts s).2.b, 5⟩)
  else rCmdParts s
/-- data that stand in a command's cells -/
structure CmdWf (c : CmdD) : Prop where
  fr : okP c.fr
  ms : ∀ p ∈ c.v.ms, okP p
theorem rCmd_back {c : CmdD} (hw : CmdWf c) (h : cmdChk c = 0) (hl : refCheckB c.v = true → Laid c.v) (r : List Nat) : rCmd ⟨cmdF c ++ r, 0⟩ = (c, ⟨r, 0⟩) := by
  have h0 := h
  obtain ⟨kind, fr, num, vw, data, v⟩ := c
  have key : rCmdParts ⟨cmdF ⟨kind, fr, num, vw, data, v⟩ ++ r, 0⟩ = (⟨kind, fr, num, vw, data, v⟩, ⟨r, 0⟩) := by
    unfold cmdChk at h
    unfold rCmdParts cmdF
    simp only at h ⊢
    by_cases h1 : kind = 1
    · subst h1
      rw [if_pos rfl] at h
      by_cases g : fr = (0, 0) ∧ num = 0 ∧ vw = 0 ∧ data = [] ∧ v = zeroV
      · obtain ⟨rfl, rfl, rfl, rfl, rfl⟩ := g
        simp only [List.append_assoc, Int.toNat_one]
        rw [rNum_back (by decide) (by decide)]
        simp
      · rw [if_neg g] at h; cases h
    · rw [if_neg h1] at h
      by_cases h2 : kind = 2
      · subst h2
        rw [if_pos rfl] at h
        by_cases g : mayP fr = true ∧ cntB num = true ∧ cntB vw = true ∧ v = zeroV
        · obtain ⟨g1, g2, g3, rfl⟩ := g
          rw [if_pos ⟨g1, g2, g3, rfl⟩] at h
          have hd : data.length ≤ 200 := by
            by_cases hd : 200 < data.length
            · rw [if_pos hd] at h; cases h
            · omega
          unfold cntB at g2 g3
          simp only [Bool.and_eq_true, decide_eq_true_eq] at g2 g3
          rw [if_pos rfl]
          simp only [List.append_assoc]
          rw [show (2 : Int).toNat = 2 from rfl, rNum_back (by decide) (by decide)]
          simp only [if_true]
          rw [rPid_back hw.fr]
          simp only
          rw [rNum_back g2.2 (by omega)]
          simp only
          rw [rNum_back g3.2 (by omega)]
          simp only
          rw [rBytes_back r hd (by decide)]
          rfl
        · rw [if_neg g] at h; cases h
      · rw [if_neg h2] at h
        by_cases h3 : kind = 3
        · subst h3
          rw [if_pos rfl] at h
          by_cases g : fr = (0, 0) ∧ num = 0 ∧ vw = 0 ∧ data = [] ∧ refCheckB v = true
          · obtain ⟨rfl, rfl, rfl, rfl, g⟩ := g
            rw [show (if (3 : Int) = 2 then pidF (0, 0) ++ (short 0 ++ (short 0 ++ (short ([] : List Nat).length ++ []))) else if (3 : Int) = 3 then viewF v else []) = viewF v from by rw [if_neg (by decide), if_pos rfl]]
            simp only [List.append_assoc]
            rw [show (3 : Int).toNat = 3 from rfl, rNum_back (by decide) (by decide)]
            rw [if_neg (by simp), if_pos rfl, rView_back (hl g) g]
            rfl
          · rw [if_neg g] at h; cases h
        · rw [if_neg h3] at h; cases h
  unfold rCmd
  rw [key]
  simp only
  rw [if_neg (by simp), h0]; simp
/-- of two forms the one that begins the other one is the same command's -/
theorem cmd_apart {a b : CmdD} (ha : CmdWf a) (hb : CmdWf b) (ca : cmdChk a = 0) (cb : cmdChk b = 0) (la : refCheckB a.v = true → Laid a.v) (lb : refCheckB b.v = true → Laid b.v) {r : List Nat} (h : cmdF b = cmdF a ++ r) : a = b := by
  have h1 := rCmd_back ha ca la r
  have h2 := rCmd_back hb cb lb []
  rw [List.append_nil, h] at h2
  rw [h1] at h2
  exact congrArg (·.1) h2

structure BeatD where
  v : Nat
  ap : Nat
  be : Nat
  st : Nat
  sus : List Pid
def aheadP (p q : Pid) : Bool := decide (p.1 < q.1 ∨ p.1 = q.1 ∧ p.2 < q.2)
def susB : Option Pid → List Pid → Bool
  | _, [] => true
  | pr, p :: l => (mayP p && (match pr with | none => true | some q => aheadP q p)) && susB (some p) l
def beatChk (x : BeatD) : Bool := decide (x.v ≤ 4611686018427387904) && (decide (x.ap ≤ 4611686018427387904) && (decide (x.be ≤ 4611686018427387904) && (decide (x.st ≤ 4611686018427387904) && (decide (x.sus.length ≤ 24) && susB none x.sus))))
def beatF (x : BeatD) : List Nat := short x.v ++ (short x.ap ++ (short x.be ++ (short x.st ++ pidsF x.sus)))
def zeroB : BeatD := ⟨0, 0, 0, 0, []⟩
def rEnd (s : RS) : Nat := if s.e = 0 ∧ 0 < s.b.length then 5 else s.e
def rBeatParts (s : RS) : BeatD × RS :=
  let a := rNum 4611686018427387904 s
  let b := rNum 4611686018427387904 a.2
  let c := rNum 4611686018427387904 b.2
  let d := rNum 4611686018427387904 c.2
  let l := rPids 24 d.2
  (⟨a.1, b.1, c.1, d.1, l.1⟩, l.2)
def rBeat (bs : List Nat) : BeatD × Nat :=
  if rEnd (rBeatParts ⟨bs, 0⟩).2 ≠ 0 then (zeroB, rEnd (rBeatParts ⟨bs, 0⟩).2)
  else if beatChk (rBeatParts ⟨bs, 0⟩).1 = false then (zeroB, 5)
  else ((rBeatParts ⟨bs, 0⟩).1, 0)
theorem rBeat_back {x : BeatD} (hw : ∀ p ∈ x.sus, okP p) (h : beatChk x = true) : rBeat (beatF x) = (x, 0) := by
  have h0 := h
  unfold beatChk at h
  simp only [Bool.and_eq_true, decide_eq_true_eq] at h
  obtain ⟨h1, h2, h3, h4, h5, _⟩ := h
  have key : rBeatParts ⟨beatF x, 0⟩ = (x, ⟨[], 0⟩) := by
    unfold rBeatParts beatF
    have e := rPids_back (l := x.sus) (most := 24) [] hw h5 (by decide)
    rw [List.append_nil] at e
    simp only [rNum_back h1 (by omega), rNum_back h2 (by omega), rNum_back h3 (by omega), rNum_back h4 (by omega), e]
  unfold rBeat
  rw [key]
  simp [rEnd, h0]
end Go.Proofs.Ytbpfhclcjedkcaa
