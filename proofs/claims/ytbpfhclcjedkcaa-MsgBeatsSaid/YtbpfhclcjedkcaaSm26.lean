/- Parts of the proof: X60 X61 X62. -/
import Derived.Deep.MidRow
import Derived.Lib.EndianBits
import Derived.Test.YtbpfhclcjedkcaaX49
namespace Go.Proofs.Ytbpfhclcjedkcaa
open Go.RowKit
/-! ### messages in plain words -/
abbrev Bal := Nat × Pid
structure MsgD where
  kind : Int
  who : Pid
  vw : Nat
  sl : Nat
  num : Nat
  hops : Int
  b : Bal
  a : Bal
  has : Bool
  c : CmdD
  v : View
  y : List Nat
def zeroBal : Bal := (0, (0, 0))
def zeroM : MsgD := ⟨0, (0, 0), 0, 0, 0, 0, zeroBal, zeroBal, false, zeroC, zeroV, []⟩
/-- a kind's fields, a bit each -/
def flN (k : Int) : Nat := if k = 1 then 563 else if k = 2 then 164 else if k = 3 then 4 else if k = 4 then 12 else if k = 5 then 76 else if k = 6 then 140 else if k = 7 then 12 else if k = 8 then 12 else if k = 9 then 34 else if k = 10 then 51 else if k = 11 then 33 else if k = 12 then 772 else if k = 13 then 33 else if k = 14 then 2 else 0
/-- a kind's fields in their order: w v s b n h p c V y -/
def ltrs (k : Int) : List Nat := if k = 1 then [0, 1, 4, 5, 9] else if k = 2 then [2, 5, 7] else if k = 3 then [2] else if k = 4 then [2, 3] else if k = 5 then [2, 3, 6] else if k = 6 then [2, 3, 7] else if k = 7 then [2, 3] else if k = 8 then [2, 3] else if k = 9 then [1, 5] else if k = 10 then [0, 1, 4, 5] else if k = 11 then [0, 5] else if k = 12 then [2, 8, 9] else if k = 13 then [0, 5] else if k = 14 then [1] else []
def hbF (f i : Nat) : Bool := decide (f &&& 2 ^ i ≠ 0)
/-- has a kind a field? -/
def hb (k : Int) (i : Nat) : Bool := hbF (flN k) i
theorem kinds (k : Int) : k = 1 ∨ k = 2 ∨ k = 3 ∨ k = 4 ∨ k = 5 ∨ k = 6 ∨ k = 7 ∨ k = 8 ∨ k = 9 ∨ k = 10 ∨ k = 11 ∨ k = 12 ∨ k = 13 ∨ k = 14 ∨ (¬ (1 ≤ k ∧ k ≤ 14) ∧ flN k = 0 ∧ ltrs k = []) := by
  by_cases h : 1 ≤ k ∧ k ≤ 14
  · omega
  · have h2 : flN k = 0 ∧ ltrs k = [] := by
      unfold flN ltrs
      repeat rw [if_neg (by omega)]
      exact ⟨rfl, rfl⟩
    exact .inr (.inr (.inr (.inr (.inr (.inr (.inr (.inr (.inr (.inr (.inr (.inr (.inr (.inr ⟨h, h2.1, h2.2⟩)))))))))))))
theorem hb_ltrs (k : Int) {i : Nat} (hi : i < 10) : hb k i = (ltrs k).contains i := by
  have key : ∀ (f : Nat) (l : List Nat), (∀ i : Fin 10, hbF f i = l.contains i.val) → hbF f i = l.contains i := fun f l h => h ⟨i, hi⟩
  rcases kinds k with rfl | rfl | rfl | rfl | rfl | rfl | rfl | rfl | rfl | rfl | rfl | rfl | rfl | rfl | ⟨-, h1, h2⟩
  · exact key 563 [0, 1, 4, 5, 9] (by decide)
  · exact key 164 [2, 5, 7] (by decide)
  · exact key 4 [2] (by decide)
  · exact key 12 [2, 3] (by decide)
  · exact key 76 [2, 3, 6] (by decide)
  · exact key 140 [2, 3, 7] (by decide)
  · exact key 12 [2, 3] (by decide)
  · exact key 12 [2, 3] (by decide)
  · exact key 34 [1, 5] (by decide)
  · exact key 51 [0, 1, 4, 5] (by decide)
  · exact key 33 [0, 5] (by decide)
  · exact key 772 [2, 8, 9] (by decide)
  · exact key 33 [0, 5] (by decide)
  · exact key 2 [1] (by decide)
  · unfold hb; rw [h1, h2]; exact key 0 [] (by decide)
theorem flN_lt (k : Int) : flN k < 1024 := by
  rcases kinds k with rfl | rfl | rfl | rfl | rfl | rfl | rfl | rfl | rfl | rfl | rfl | rfl | rfl | rfl | ⟨-, h1, h2⟩ <;> first | (rw [h1]; decide) | decide
/-- a message with just the fields of its kind -/
def onlyM (m : MsgD) : MsgD :=
  { kind := m.kind
    who := if hb m.kind 0 then m.who else (0, 0)
    vw := if hb m.kind 1 then m.vw else 0
    sl := if hb m.kind 2 then m.sl else 0
    b := if hb m.kind 3 then m.b else zeroBal
    num := if hb m.kind 4 then m.num else 0
    hops := if hb m.kind 5 then m.hops else 0
    has := if hb m.kind 6 then m.has else false
    a := if hb m.kind 6 && m.has then m.a else zeroBal
    c := if (hb m.kind 6 && m.has) || hb m.kind 7 then m.c else zeroC
    v := if hb m.kind 8 then m.v else zeroV
    y := if hb m.kind 9 then m.y else [] }
def sameM (a b : MsgD) : Bool :=
  decide (a.kind = b.kind) && (decide (a.who = b.who) && (decide (a.vw = b.vw) && (decide (a.sl = b.sl) && (decide (a.num = b.num) && (decide (a.hops = b.hops) && (decide (a.b = b.b) && (decide (a.a = b.a) && (decide (a.has = b.has) && (sameC a.c b.c && (sameB a.v b.v && decide (a.y = b.y)))))))))))
/-- P10.1 -/
def msgChk (m : MsgD) : Bool :=
  decide (flN m.kind ≠ 0) && (sameM m (onlyM m) && (decide (m.vw ≤ 4611686018427387904 ∧ m.sl ≤ 4611686018427387904 ∧ m.num ≤ 4611686018427387904) && (decide (0 ≤ m.hops ∧ m.hops ≤ 4) && (decide (m.y.length ≤ 200) &&
  ((!hb m.kind 0 || mayP m.who) && ((!hb m.kind 3 || mayP m.b.2) && ((!m.has || (mayP m.a.2 && decide (cmdChk m.c = 0))) && ((!hb m.kind 7 || decide (cmdChk m.c = 0)) && (!hb m.kind 8 || refCheckB m.v)))))))))
def balF (b : Bal) : List Nat := short b.1 ++ pidF b.2
def letF (m : MsgD) (i : Nat) : List Nat :=
  if i = 0 then pidF m.who else if i = 1 then short m.vw else if i = 2 then short m.sl else if i = 3 then balF m.b else if i = 4 then short m.num else if i = 5 then short m.hops.toNat
  else if i = 6 then (if m.has then short 1 ++ (balF m.a ++ cmdF m.c) else short 0)
  else if i = 7 then cmdF m.c else if i = 8 then viewF m.v else short m.y.length ++ m.y
def msgF (m : MsgD) : List Nat := short m.kind.toNat ++ (ltrs m.kind).flatMap (letF m)
/-! ### the readers -/
def rTruth (s : RS) : Bool × RS :=
  if s.e ≠ 0 then (false, s)
  else match s.b with
    | [] => (false, ⟨s.b, 2⟩)
    | c :: r => if 1 < c then (false, ⟨s.b, 5⟩) else (decide (c = 1), ⟨r, 0⟩)
def rBal (s : RS) : Bal × RS :=
  if s.e ≠ 0 then (zeroBal, s)
  else if (rPid (rNum 4294967295 s).2).2.e ≠ 0 then (zeroBal, ⟨s.b, (rPid (rNum 4294967295 s).2).2.e⟩)
  else (((rNum 4294967295 s).1, (rPid (rNum 4294967295 s).2).1), (rPid (rNum 4294967295 s).2).2)
def stop5 (s : RS) : RS := if s.e = 0 then ⟨s.b, 5⟩ else s
/-- one field is read -/
def rFld (i : Nat) (x : MsgD × RS) : MsgD × RS :=
  if i = 0 then ({ x.1 with who := (rPid x.2).1 }, (rPid x.2).2)
  else if i = 1 then ({ x.1 with vw := (rNum 4611686018427387904 x.2).1 }, (rNum 4611686018427387904 x.2).2)
  else if i = 2 then ({ x.1 with sl := (rNum 4611686018427387904 x.2).1 }, (rNum 4611686018427387904 x.2).2)
  else if i = 3 then ({ x.1 with b := (rBal x.2).1 }, (rBal x.2).2)
  else if i = 4 then ({ x.1 with num := (rNum 4611686018427387904 x.2).1 }, (rNum 4611686018427387904 x.2).2)
  else if i = 5 then ({ x.1 with hops := ((rNum 4 x.2).1 : Nat) }, (rNum 4 x.2).2)
  else if i = 6 then
    (if (rTruth x.2).1 then ({ x.1 with has := true, a := (rBal (rTruth x.2).2).1, c := (rCmd (rBal (rTruth x.2).2).2).1 }, (rCmd (rBal (rTruth x.2).2).2).2)
     else ({ x.1 with has := false }, (rTruth x.2).2))
  else if i = 7 then ({ x.1 with c := (rCmd x.2).1 }, (rCmd x.2).2)
  else if i = 8 then ({ x.1 with v := (rView x.2).1 }, (rView x.2).2)
  else ({ x.1 with y := (rBytes 200 x.2).1 }, (rBytes 200 x.2).2)
def rMsgHead (s : RS) : MsgD × RS :=
  let k := rNum 14 s
  ({ zeroM with kind := (k.1 : Nat) }, if flN (k.1 : Nat) = 0 then stop5 k.2 else k.2)
def rMsgParts (s : RS) : MsgD × RS := (ltrs (rMsgHead s).1.kind).foldl (fun x i => rFld i x) (rMsgHead s)
def rMsg (bs : List Nat) : MsgD × Nat :=
  if rEnd (rMsgParts ⟨bs, 0⟩).2 ≠ 0 then (zeroM, rEnd (rMsgParts ⟨bs, 0⟩).2)
  else if msgChk (rMsgParts ⟨bs, 0⟩).1 = false then (zeroM, 5)
  else ((rMsgParts ⟨bs, 0⟩).1, 0)
/-- data that stand in a message's cells -/
structure MsgWf (m : MsgD) : Prop where
  who : okP m.who
  b : m.b.1 < 4294967296 ∧ okP m.b.2
  a : m.a.1 < 4294967296 ∧ okP m.a.2
  c : CmdWf m.c
  v : ∀ p ∈ m.v.ms, okP p
/-! ### what was laid is read as it was -/
theorem rTruth_back (b : Bool) (r : List Nat) : rTruth ⟨short (if b then 1 else 0) ++ r, 0⟩ = (b, ⟨r, 0⟩) := by
  cases b
  · rw [short_lt (by decide)]; rfl
  · rw [short_lt (by decide)]; rfl
theorem rBal_back {b : Bal} (h : b.1 < 4294967296 ∧ okP b.2) (r : List Nat) : rBal ⟨balF b ++ r, 0⟩ = (b, ⟨r, 0⟩) := by
  have e1 : rNum 4294967295 ⟨balF b ++ r, 0⟩ = (b.1, ⟨pidF b.2 ++ r, 0⟩) := by unfold balF; rw [List.append_assoc]; exact rNum_back (by omega) (by omega) _
  unfold rBal
  rw [e1]
  simp only [rPid_back h.2 r]
  simp
theorem sameB_eq {a b : View} (h : sameB a b = true) : a = b := by
  obtain ⟨a1, a2, a3, a4⟩ := a
  obtain ⟨b1, b2, b3, b4⟩ := b
  unfold sameB at h
  simp only [Bool.and_eq_true, decide_eq_true_eq] at h
  obtain ⟨h1, h2, h3, h4⟩ := h
  subst h1 h2 h3 h4; rfl
theorem sameC_eq {a b : CmdD} (h : sameC a b = true) : a = b := by
  obtain ⟨a1, a2, a3, a4, a5, a6⟩ := a
  obtain ⟨b1, b2, b3, b4, b5, b6⟩ := b
  unfold sameC at h
  simp only [Bool.and_eq_true, decide_eq_true_eq] at h
  obtain ⟨h1, h2, h3, h4, h5, h6⟩ := h
  have h6 := sameB_eq h6
  subst h1 h2 h3 h4 h5 h6; rfl
theorem sameM_eq {a b : MsgD} (h : sameM a b = true) : a = b := by
  obtain ⟨a1, a2, a3, a4, a5, a6, a7, a8, a9, a10, a11, a12⟩ := a
  obtain ⟨b1, b2, b3, b4, b5, b6, b7, b8, b9, b10, b11, b12⟩ := b
  unfold sameM at h
  simp only [Bool.and_eq_true, decide_eq_true_eq] at h
  obtain ⟨h1, h2, h3, h4, h5, h6, h7, h8, h9, h10, h11, h12⟩ := h
  have h10 := sameC_eq h10
  have h11 := sameB_eq h11
  subst h1 h2 h3 h4 h5 h6 h7 h8 h9 h10 h11 h12; rfl
theorem sameM_self (a : MsgD) : sameM a a = true := by
  unfold sameM; simp [sameC_self, sameB_refl]
structure MsgOk (m : MsgD) : Prop where
  f : flN m.kind ≠ 0
  only : m = onlyM m
  nums : m.vw ≤ 4611686018427387904 ∧ m.sl ≤ 4611686018427387904 ∧ m.num ≤ 4611686018427387904
  hops : 0 ≤ m.hops ∧ m.hops ≤ 4
  len : m.y.length ≤ 200
  who : hb m.kind 0 = true → mayP m.who = true
  b : hb m.kind 3 = true → mayP m.b.2 = true
  a : m.has = true → mayP m.a.2 = true ∧ cmdChk m.c = 0
  c : hb m.kind 7 = true → cmdChk m.c = 0
  v : hb m.kind 8 = true → refCheckB m.v = true
theorem msgChk_ok {m : MsgD} (h : msgChk m = true) : MsgOk m := by
  unfold msgChk at h
  simp only [Bool.and_eq_true, Bool.or_eq_true, Bool.not_eq_true', decide_eq_true_eq] at h
  obtain ⟨h1, h2, h3, h4, h5, h6, h7, h8, h9, h10⟩ := h
  exact ⟨h1, sameM_eq h2, h3, h4, h5, fun e => by simpa [e] using h6, fun e => by simpa [e] using h7, fun e => by simpa [e] using h8, fun e => by simpa [e] using h9, fun e => by simpa [e] using h10⟩
theorem MsgOk.inj {m : MsgD} (h : MsgOk m) : m.who = (if hb m.kind 0 then m.who else (0, 0)) ∧ m.vw = (if hb m.kind 1 then m.vw else 0) ∧ m.sl = (if hb m.kind 2 then m.sl else 0) ∧ m.b = (if hb m.kind 3 then m.b else zeroBal) ∧ m.num = (if hb m.kind 4 then m.num else 0) ∧ m.hops = (if hb m.kind 5 then m.hops else 0) ∧ m.has = (if hb m.kind 6 then m.has else false) ∧ m.a = (if hb m.kind 6 && m.has then m.a else zeroBal) ∧ m.c = (if (hb m.kind 6 && m.has) || hb m.kind 7 then m.c else zeroC) ∧ m.v = (if hb m.kind 8 then m.v else zeroV) ∧ m.y = (if hb m.kind 9 then m.y else []) :=
  ⟨congrArg MsgD.who h.only, congrArg MsgD.vw h.only, congrArg MsgD.sl h.only, congrArg MsgD.b h.only, congrArg MsgD.num h.only, congrArg MsgD.hops h.only, congrArg MsgD.has h.only, congrArg MsgD.a h.only, congrArg MsgD.c h.only, congrArg MsgD.v h.only, congrArg MsgD.y h.only⟩
/-- one field is taken over -/
def updM (m : MsgD) (i : Nat) (x : MsgD) : MsgD :=
  if i = 0 then { x with who := m.who } else if i = 1 then { x with vw := m.vw } else if i = 2 then { x with sl := m.sl } else if i = 3 then { x with b := m.b } else if i = 4 then { x with num := m.num } else if i = 5 then { x with hops := m.hops } else if i = 6 then (if m.has then { x with has := true, a := m.a, c := m.c } else { x with has := false }) else if i = 7 then { x with c := m.c } else if i = 8 then { x with v := m.v } else { x with y := m.y }
/-- a field that the kind has is read as it was laid -/
theorem rFld_back {m : MsgD} (h : MsgOk m) (hw : MsgWf m) (hlc : refCheckB m.c.v = true → Laid m.c.v) (hlv : refCheckB m.v = true → Laid m.v) {i : Nat} (hi : i ∈ ltrs m.kind) (x : MsgD) (r : List Nat) :
    rFld i (x, ⟨letF m i ++ r, 0⟩) = (updM m i x, ⟨r, 0⟩) := by
  have hn := h.nums
  have hlt : i < 10 := by
    have : ∀ (l : List Nat), (∀ j ∈ l, j < 10) → i ∈ l → i < 10 := fun l hl h => hl i h
    rcases kinds m.kind with e | e | e | e | e | e | e | e | e | e | e | e | e | e | ⟨-, -, e⟩ <;> rw [e] at hi
    all_goals first
      | (cases hi; done)
      | exact this _ (by decide) hi
  have hb' : hb m.kind i = true := by rw [hb_ltrs m.kind hlt]; simpa using hi
  have n1 : ∀ n : Nat, n ≤ 4611686018427387904 → ∀ r, rNum 4611686018427387904 ⟨short n ++ r, 0⟩ = (n, ⟨r, 0⟩) := fun n h r => rNum_back h (by omega) r
  by_cases h0 : i = 0
  · subst h0; simp only [rFld, letF, updM, if_true, rPid_back hw.who]
  by_cases h1 : i = 1
  · subst h1; simp [rFld, letF, updM, n1 _ hn.1]
  by_cases h2 : i = 2
  · subst h2; simp [rFld, letF, updM, n1 _ hn.2.1]
  by_cases h3 : i = 3
  · subst h3; simp [rFld, letF, updM, rBal_back hw.b]
  by_cases h4 : i = 4
  · subst h4; simp [rFld, letF, updM, n1 _ hn.2.2]
  by_cases h5 : i = 5
  · subst h5
    have hh := h.hops
    have e : rNum 4 ⟨short m.hops.toNat ++ r, 0⟩ = (m.hops.toNat, ⟨r, 0⟩) := rNum_back (by omega) (by omega) r
    have e2 : ((m.hops.toNat : Nat) : Int) = m.hops := by omega
    simp [rFld, letF, updM, e, e2]
  by_cases h6 : i = 6
  · subst h6
    cases hh : m.has
    · have e := rTruth_back false r
      simp only [Bool.false_eq_true, if_false] at e
      simp [rFld, letF, updM, hh, e]
    · have hc := (h.a hh).2
      have e := rTruth_back true (balF m.a ++ (cmdF m.c ++ r))
      simp only [if_true] at e
      simp [rFld, letF, updM, hh, e, rBal_back hw.a, rCmd_back hw.c hc hlc]
  by_cases h7 : i = 7
  · subst h7
    simp [rFld, letF, updM, rCmd_back hw.c (h.c hb') hlc]
  by_cases h8 : i = 8
  · subst h8
    simp [rFld, letF, updM, rView_back (hlv (h.v hb')) (h.v hb')]
  have h9 : i = 9 := by omega
  subst h9
  simp [rFld, letF, updM, rBytes_back r h.len (by decide : (200 : Nat) < 18446744073709551616)]
theorem fold_back {m : MsgD} (h : MsgOk m) (hw : MsgWf m) (hlc : refCheckB m.c.v = true → Laid m.c.v) (hlv : refCheckB m.v = true → Laid m.v) : ∀ (l : List Nat), (∀ i ∈ l, i ∈ ltrs m.kind) → ∀ (x : MsgD) (r : List Nat), l.foldl (fun x i => rFld i x) (x, ⟨l.flatMap (letF m) ++ r, 0⟩) = (l.foldl (fun y i => updM m i y) x, ⟨r, 0⟩)
  | [], _, x, r => by simp
  | i :: l, hl, x, r => by
    rw [List.flatMap_cons, List.append_assoc, List.foldl_cons, rFld_back h hw hlc hlv (hl i (List.mem_cons_self ..)), List.foldl_cons]
    exact fold_back h hw hlc hlv l (fun j hj => hl j (List.mem_cons_of_mem _ hj)) _ r
theorem rMsgParts_back {m : MsgD} (h : MsgOk m) (hw : MsgWf m) (hlc : refCheckB m.c.v = true → Laid m.c.v) (hlv : refCheckB m.v = true → Laid m.v) (r : List Nat) : rMsgParts ⟨msgF m ++ r, 0⟩ = (m, ⟨r, 0⟩) := by
  have hk : 1 ≤ m.kind ∧ m.kind ≤ 14 := by
    rcases kinds m.kind with e | e | e | e | e | e | e | e | e | e | e | e | e | e | ⟨-, e, -⟩
    all_goals first
      | omega
      | exact absurd e h.f
  have hk2 : ((m.kind.toNat : Nat) : Int) = m.kind := by omega
  have hd : rMsgHead ⟨msgF m ++ r, 0⟩ = ({ zeroM with kind := m.kind }, ⟨(ltrs m.kind).flatMap (letF m) ++ r, 0⟩) := by
    have e1 : rNum 14 ⟨msgF m ++ r, 0⟩ = (m.kind.toNat, ⟨(ltrs m.kind).flatMap (letF m) ++ r, 0⟩) := by unfold msgF; rw [List.append_assoc]; exact rNum_back (by omega) (by omega) _
    unfold rMsgHead
    simp only [e1, hk2, if_neg h.f]
  unfold rMsgParts
  rw [hd]
  simp only
  rw [fold_back h hw hlc hlv (ltrs m.kind) (fun i hi => hi)]
  congr 1
  obtain ⟨i1, i2, i3, i4, i5, i6, i7, i8, i9, i10, i11⟩ := h.inj
  have hbs : ∀ i, i < 10 → hb m.kind i = (ltrs m.kind).contains i := fun i hi => hb_ltrs m.kind hi
  have hf := h.f
  clear h hw hlc hlv hd
  obtain ⟨kind, who, vw, sl, num, hops, b, a, has, c, v, y⟩ := m
  simp only at *
  rcases kinds kind with rfl | rfl | rfl | rfl | rfl | rfl | rfl | rfl | rfl | rfl | rfl | rfl | rfl | rfl | ⟨-, e, -⟩
  all_goals first
    | exact absurd e hf
    | (have l0 := hbs 0 (by decide); have l1 := hbs 1 (by decide); have l2 := hbs 2 (by decide); have l3 := hbs 3 (by decide); have l4 := hbs 4 (by decide); have l5 := hbs 5 (by decide); have l6 := hbs 6 (by decide); have l7 := hbs 7 (by decide); have l8 := hbs 8 (by decide); have l9 := hbs 9 (by decide)
       clear hbs hf hk hk2
       simp only [ltrs, Int.reduceEq, if_true, if_false, List.contains_cons, List.contains_nil, Nat.reduceBEq, Bool.or_false, Bool.or_true] at l0 l1 l2 l3 l4 l5 l6 l7 l8 l9
       simp only [l0, l1, l2, l3, l4, l5, l6, l7, l8, l9, Bool.false_eq_true, if_true, if_false, Bool.false_and, Bool.true_and, Bool.or_false, Bool.or_true] at i1 i2 i3 i4 i5 i6 i7 i8 i9 i10 i11
       simp only [ltrs, Int.reduceEq, if_true, if_false, List.foldl_cons, List.foldl_nil, updM, zeroM]
       first
         | (cases has <;> simp_all; done)
         | simp_all)
end Go.Proofs.Ytbpfhclcjedkcaa

namespace Go.Proofs.Ytbpfhclcjedkcaa
open Go.RowKit
/-! ### messages in their boxes; fields, has -/
/-- where a message's rows lie -/
structure MA where
  da : Option Addr
  dc : Nat
  am : Option Addr
  cm : Nat
  al : Option Addr
  cl : Nat
  ad : Option Addr
  cd : Nat
  vm : Option Addr
  em : Nat
  vl : Option Addr
  el : Nat
  vd : Option Addr
  ed : Nat
  ya : Option Addr
  yc : Nat
def cmdV (A : MA) (c : CmdD) : Array Value := cmdL A.da A.am A.al A.ad A.dc A.cm A.cl A.cd c
def viewC (A : MA) (V : View) : Array Value := #[.int .u64 V.id, .slice A.vm V.ms.length A.em, .slice A.vl V.ls.length A.el, .slice A.vd V.ds.length A.ed]
def headL (m : MsgD) : List Value := [.int .i64 m.kind, .int .u16 m.who.1, .int .u32 m.who.2, .int .u64 m.vw, .int .u64 m.sl, .int .u64 m.num, .int .i64 m.hops, .int .u32 m.b.1, .int .u16 m.b.2.1, .int .u32 m.b.2.2, .int .u32 m.a.1, .int .u16 m.a.2.1, .int .u32 m.a.2.2, .bool m.has]
/-- a message's cells -/
def ML (A : MA) (m : MsgD) : List Value := headL m ++ ((cmdV A m.c).toList ++ ((viewC A m.v).toList ++ [.slice A.ya m.y.length A.yc]))
theorem ML_len (A : MA) (m : MsgD) : (ML A m).length = 29 := rfl
theorem infoM : (Try.prog.info? 46).map (·.size) = some 29 := by kernel_rfl
theorem infoML (A : MA) (m : MsgD) : (Try.prog.info? 46).map (·.size) = some (ML A m).length := infoM
theorem infoC : (Try.prog.info? 44).map (·.size) = some 10 := by kernel_rfl
def MsgBox (w : World) (b : Nat) (A : MA) (m : MsgD) : Prop := w.rangeAt b 0 (ML A m)
theorem MsgBox.cell {w : World} {b : Nat} {A : MA} {m : MsgD} (h : MsgBox w b A m) {j : Nat} {v : Value} (hv : (ML A m)[j]? = some v) : w.cell? ⟨b, j, none⟩ = some v := by
  have := h j v hv
  rwa [Nat.zero_add] at this
theorem MsgBox.lt {w : World} {b : Nat} {A : MA} {m : MsgD} (h : MsgBox w b A m) : b < w.heap.size := World.block_lt_of_cell? w _ (h.cell (j := 0) rfl)
theorem rangeAt_to {w w' : World} {b o B : Nat} {cs : List Value} (h : w.rangeAt b o cs) (hb : Below B w w') (hB : b < B) : w'.rangeAt b o cs := fun j v hv => (hb.cell (p := ⟨b, o + j, none⟩) (by exact hB)).trans (h j v hv)
theorem MsgBox.ext {w w' : World} {b B : Nat} {A : MA} {m : MsgD} (h : MsgBox w b A m) (hb : Below B w w') (hB : b < B) : MsgBox w' b A m := rangeAt_to h hb hB
theorem MsgBox.cmd {w : World} {b : Nat} {A : MA} {m : MsgD} (h : MsgBox w b A m) : w.rangeAt b 14 (cmdV A m.c).toList := fun j v hv => by
  have hj : j < 10 := (List.getElem?_eq_some_iff.1 hv).1
  refine h.cell (j := 14 + j) ?_
  unfold ML
  rw [List.getElem?_append_right (by show 14 ≤ 14 + j; omega), show 14 + j - (headL m).length = j from by show 14 + j - 14 = j; omega, List.getElem?_append_left (by show j < 10; exact hj)]
  exact hv
theorem MsgBox.view {w : World} {b : Nat} {A : MA} {m : MsgD} (h : MsgBox w b A m) : w.rangeAt b 24 (viewC A m.v).toList := fun j v hv => by
  have hj : j < 4 := (List.getElem?_eq_some_iff.1 hv).1
  refine h.cell (j := 24 + j) ?_
  unfold ML
  rw [List.getElem?_append_right (by show 14 ≤ 24 + j; omega), show 24 + j - (headL m).length = 10 + j from by show 24 + j - 14 = 10 + j; omega, List.getElem?_append_right (by show 10 ≤ 10 + j; omega), show 10 + j - ((cmdV A m.c).toList).length = j from by show 10 + j - 10 = j; omega, List.getElem?_append_left (by show j < 4; exact hj)]
  exact hv
theorem MsgBox.made (A : MA) (m : MsgD) (w : World) (t : TypeId) (fr : Nat × Nat) : MsgBox (w.alloc (.cells (ML A m).toArray t fr)) w.heap.size A m := fun j v hv => by
  rw [World.cell?_alloc_mark, Nat.zero_add]; simpa using hv
section
variable {ops : Array Oper} {rest : List Oper} {op : Oper} {a : Go.Act} {w : World} {Q : Exit → Go.Act → World → Prop} {x : Operand} {b : Nat} {A : MA} {m : MsgD}
/-- the whole message is read -/
theorem wpList_loadM (h : MsgBox w b A m) (hgd : op.guard = none) (ho : op.op = .load 46 x)
    (hx : a.eval x = .pointer (some ⟨b, 0, none⟩)) (hk : wpList Try.prog ops Q rest (a.put op.dst (.agg (ML A m).toArray)) w) : wpList Try.prog ops Q (op :: rest) a w :=
  wpList_load_mid hgd 46 x ho b 0 hx (ML A m) _ h Try.underlying46 rfl (infoML A m) hk
/-- its command -/
theorem wpList_loadMC (h : MsgBox w b A m) (hgd : op.guard = none) (ho : op.op = .load 44 x)
    (hx : a.eval x = .pointer (some ⟨b, 14, none⟩)) (hk : wpList Try.prog ops Q rest (a.put op.dst (.agg (cmdV A m.c))) w) : wpList Try.prog ops Q (op :: rest) a w :=
  wpList_load_mid hgd 44 x ho b 14 hx (cmdV A m.c).toList _ h.cmd Try.underlying44 rfl infoC hk
end
theorem fields_any (k : Int) (w : World) : Calls Try.prog 90 #[.int .i64 k] w fun e w' => e = .returned (.int .u64 (flN k)) ∧ w = w' := by
  rcases kinds k with rfl | rfl | rfl | rfl | rfl | rfl | rfl | rfl | rfl | rfl | rfl | rfl | rfl | rfl | ⟨h, h1, -⟩
  all_goals first
    | (go_enter Try.func90, Try.ntmps90
       go_wp2
       go_ret
       exact ⟨rfl, rfl⟩)
    | skip
  have t : ∀ j : Int, 1 ≤ j → j ≤ 14 → (k == j) = false := fun j h2 h3 => by simp only [beq_eq_false_iff_ne, ne_eq]; omega
  have t1 := t 1 (by decide) (by decide)
  have t2 := t 2 (by decide) (by decide)
  have t3 := t 3 (by decide) (by decide)
  have t4 := t 4 (by decide) (by decide)
  have t5 := t 5 (by decide) (by decide)
  have t6 := t 6 (by decide) (by decide)
  have t7 := t 7 (by decide) (by decide)
  have t8 := t 8 (by decide) (by decide)
  have t9 := t 9 (by decide) (by decide)
  have t10 := t 10 (by decide) (by decide)
  have t11 := t 11 (by decide) (by decide)
  have t12 := t 12 (by decide) (by decide)
  have t13 := t 13 (by decide) (by decide)
  have t14 := t 14 (by decide) (by decide)
  have H1 := hid h1
  clear t h h1
  go_enter Try.func90, Try.ntmps90
  go_wp2
  go_ret
  exact ⟨by rw [H1.out]; rfl, rfl⟩
theorem mhas_any (f i : Nat) (n : Nat) (hn : n = 2 ^ i) (hi : i < 10) (hf : f < 1024) (w : World) : Calls Try.prog 92 #[.int .u64 f, .int .u64 n] w fun e w' => e = .returned (.bool (hbF f i)) ∧ w = w' := by
  have hn2 : n < 2 ^ 64 := by rw [hn]; exact Nat.pow_lt_pow_right (by decide) (by omega)
  have e1 := (bits_nat .u64 64 (by decide) wraps_u64 f n (by omega) hn2).1
  have E : Hid (hbF f i = decide (f &&& n ≠ 0)) := hid (by rw [hn]; rfl)
  clear hn hn2 hf
  go_enter Try.func92, Try.ntmps92
  go_wp2
  go_ret
  exact ⟨by rw [E.out]; by_cases h : f &&& n = 0 <;> simp [h], rfl⟩
end Go.Proofs.Ytbpfhclcjedkcaa

namespace Go.Proofs.Ytbpfhclcjedkcaa
open Go.RowKit
/-! ### msg.Same and the reference's -/
structure MsgR (w : World) (A : MA) (m : MsgD) : Prop where
  c : CmdR w A.da A.am A.al A.ad m.c
  v : ViewR w A.vm A.vl A.vd m.v
  yr : ByteRow w A.ya m.y
  yb : ∀ b ∈ m.y, b < 256
  yl : m.y.length ≤ 70368744177664
theorem MsgR.ext {w w' : World} {A : MA} {m : MsgD} (h : MsgR w A m) (hb : Below w.heap.size w w') : MsgR w' A m := ⟨h.c.ext hb, h.v.ext hb, h.yr.ext hb, h.yb, h.yl⟩
section
variable {ops : Array Oper} {rest : List Oper} {op : Oper} {a : Go.Act} {w : World} {Q : Exit → Go.Act → World → Prop} {x : Operand} {b : Nat} {A : MA} {m : MsgD}
theorem wpList_loadMw (h : MsgBox w b A m) (hw : Region.wanted op (yielded ops a.tmps) = true) (ho : op.op = .load 46 x)
    (hx : a.eval x = .pointer (some ⟨b, 0, none⟩)) (hk : wpList Try.prog ops Q rest (a.put op.dst (.agg (ML A m).toArray)) w) : wpList Try.prog ops Q (op :: rest) a w :=
  wpList_step fun K hK => by rw [if_pos hw]; exact wp_load_mid 46 x ho b 0 hx (ML A m) _ h Try.underlying46 rfl (infoML A m) (hK _ _ hk)
theorem wpList_loadMCw (h : MsgBox w b A m) (hw : Region.wanted op (yielded ops a.tmps) = true) (ho : op.op = .load 44 x)
    (hx : a.eval x = .pointer (some ⟨b, 14, none⟩)) (hk : wpList Try.prog ops Q rest (a.put op.dst (.agg (cmdV A m.c))) w) : wpList Try.prog ops Q (op :: rest) a w :=
  wpList_step fun K hK => by rw [if_pos hw]; exact wp_load_mid 44 x ho b 14 hx (cmdV A m.c).toList _ h.cmd Try.underlying44 rfl infoC (hK _ _ hk)
end
theorem neq_bal (n a b m c d : Int) (w : World) : (binOp .neq 41 (.agg #[.int .u32 n, .int .u16 a, .int .u32 b]) (.agg #[.int .u32 m, .int .u16 c, .int .u32 d])).run Try.prog w = .ok (.bool (!decide ((n, a, b) = (m, c, d)))) w := by
  have hS : Try.prog.underlying 41 = some (.struct (Try.prog.fieldsOf 41)) := by kernel_rfl
  have hp : Try.prog.stoodInHeld 41 = false := by kernel_rfl
  rw [run_neq_struct, show (10000 : Nat) = 9999 + 1 from rfl, run_equalIn_agg w 9999 41 _ _ hS hp]
  simp only [Program.fieldsOf, Try.underlying41]
  go_simp
  by_cases h1 : n = m <;> by_cases h2 : a = c <;> by_cases h3 : b = d <;> simp [h1, h2, h3]
theorem eql_bal (n a b m c d : Int) (w : World) : (binOp .eql 41 (.agg #[.int .u32 n, .int .u16 a, .int .u32 b]) (.agg #[.int .u32 m, .int .u16 c, .int .u32 d])).run Try.prog w = .ok (.bool (decide ((n, a, b) = (m, c, d)))) w := by
  have hS : Try.prog.underlying 41 = some (.struct (Try.prog.fieldsOf 41)) := by kernel_rfl
  have hp : Try.prog.stoodInHeld 41 = false := by kernel_rfl
  rw [run_eql_struct, show (10000 : Nat) = 9999 + 1 from rfl, run_equalIn_agg w 9999 41 _ _ hS hp]
  simp only [Program.fieldsOf, Try.underlying41]
  go_simp
  by_cases h1 : n = m <;> by_cases h2 : a = c <;> by_cases h3 : b = d <;> simp [h1, h2, h3]
theorem bal_dec (x y : Bal) (r : Bool) (h : decide (x = y) = r) : decide (((x.1 : Int), x.2.1, x.2.2) = ((y.1 : Int), y.2.1, y.2.2)) = r := by
  obtain ⟨a, b, c⟩ := x
  obtain ⟨d, e, f⟩ := y
  rw [← h]
  by_cases h1 : a = d
  · subst h1; simp
  · have h2 : ¬ (a : Int) = (d : Int) := by omega
    simp [h1, h2]
theorem pid_dec (x y : Pid) (r : Bool) (h : decide (x = y) = r) : decide ((x.1, x.2) = (y.1, y.2)) = r := h
end Go.Proofs.Ytbpfhclcjedkcaa

