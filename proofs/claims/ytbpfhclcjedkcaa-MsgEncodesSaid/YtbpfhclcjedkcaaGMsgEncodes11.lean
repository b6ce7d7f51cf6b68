/- Parts of the proof: X60 X61 X62 X64. -/
import Derived.Deep.MidRow
import Derived.Lib.EndianBits
import Derived.Test.YtbpfhclcjedkcaaX49
namespace Go.Proofs.Ytbpfhclcjedkcaa
open Go.RowKit
/-! ### messages in plain words -/
abbrev Bal := Nat × Pid
structure MsgD where
  kind : Int
  who : Pid
  vw : Nat
  sl : Nat
  num : Nat
  hops : Int
  b : Bal
  a : Bal
  has : Bool
  c : CmdD
  v : View
  y : List Nat
def zeroBal : Bal := (0, (0, 0))
def zeroM : MsgD := ⟨0, (0, 0), 0, 0, 0, 0, zeroBal, zeroBal, false, zeroC, zeroV, []⟩
/-- a kind's fields, a bit each -/
def flN (k : Int) : Nat := if k = 1 then 563 else if k = 2 then 164 else if k = 3 then 4 else if k = 4 then 12 else if k = 5 then 76 else if k = 6 then 140 else if k = 7 then 12 else if k = 8 then 12 else if k = 9 then 34 else if k = 10 then 51 else if k = 11 then 33 else if k = 12 then 772 else if k = 13 then 33 else if k = 14 then 2 else 0
/-- a kind's fields in their order: w v s b n h p c V y -/
def ltrs (k : Int) : List Nat := if k = 1 then [0, 1, 4, 5, 9] else if k = 2 then [2, 5, 7] else if k = 3 then [2] else if k = 4 then [2, 3] else if k = 5 then [2, 3, 6] else if k = 6 then [2, 3, 7] else if k = 7 then [2, 3] else if k = 8 then [2, 3] else if k = 9 then [1, 5] else if k = 10 then [0, 1, 4, 5] else if k = 11 then [0, 5] else if k = 12 then [2, 8, 9] else if k = 13 then [0, 5] else if k = 14 then [1] else []
def hbF (f i : Nat) : Bool := decide (f &&& 2 ^ i ≠ 0)
/-- has a kind a field? -/
def hb (k : Int) (i : Nat) : Bool := hbF (flN k) i
theorem kinds (k : Int) : k = 1 ∨ k = 2 ∨ k = 3 ∨ k = 4 ∨ k = 5 ∨ k = 6 ∨ k = 7 ∨ k = 8 ∨ k = 9 ∨ k = 10 ∨ k = 11 ∨ k = 12 ∨ k = 13 ∨ k = 14 ∨ (¬ (1 ≤ k ∧ k ≤ 14) ∧ flN k = 0 ∧ ltrs k = []) := by
  by_cases h : 1 ≤ k ∧ k ≤ 14
  · omega
  · have h2 : flN k = 0 ∧ ltrs k = [] := by
      unfold flN ltrs
      repeat rw [if_neg (by omega)]
      exact ⟨rfl, rfl⟩
    exact .inr (.inr (.inr (.inr (.inr (.inr (.inr (.inr (.inr (.inr (.inr (.inr (.inr (.inr ⟨h, h2.1, h2.2⟩)))))))))))))
theorem hb_ltrs (k : Int) {i : Nat} (hi : i < 10) : hb k i = (ltrs k).contains i := by
  have key : ∀ (f : Nat) (l : List Nat), (∀ i : Fin 10, hbF f i = l.contains i.val) → hbF f i = l.contains i := fun f l h => h ⟨i, hi⟩
  rcases kinds k with rfl | rfl | rfl | rfl | rfl | rfl | rfl | rfl | rfl | rfl | rfl | rfl | rfl | rfl | ⟨-, h1, h2⟩
  · exact key 563 [0, 1, 4, 5, 9] (by decide)
  · exact key 164 [2, 5, 7] (by decide)
  · exact key 4 [2] (by decide)
  · exact key 12 [2, 3] (by decide)
  · exact key 76 [2, 3, 6] (by decide)
  · exact key 140 [2, 3, 7] (by decide)
  · exact key 12 [2, 3] (by decide)
  · exact key 12 [2, 3] (by decide)
  · exact key 34 [1, 5] (by decide)
  · exact key 51 [0, 1, 4, 5] (by decide)
  · exact key 33 [0, 5] (by decide)
  · exact key 772 [2, 8, 9] (by decide)
  · exact key 33 [0, 5] (by decide)
  · exact key 2 [1] (by decide)
  · unfold hb; rw [h1, h2]; exact key 0 [] (by decide)
theorem flN_lt (k : Int) : flN k < 1024 := by
  rcases kinds k with rfl | rfl | rfl | rfl | rfl | rfl | rfl | rfl | rfl | rfl | rfl | rfl | rfl | rfl | ⟨-, h1, h2⟩ <;> first | (rw [h1]; decide) | decide
/-- a message with just the fields of its kind -/
def onlyM (m : MsgD) : MsgD :=
  { kind := m.kind
    who := if hb m.kind 0 then m.who else (0, 0)
    vw := if hb m.kind 1 then m.vw else 0
    sl := if hb m.kind 2 then m.sl else 0
    b := if hb m.kind 3 then m.b else zeroBal
    num := if hb m.kind 4 then m.num else 0
    hops := if hb m.kind 5 then m.hops else 0
    has := if hb m.kind 6 then m.has else false
    a := if hb m.kind 6 && m.has then m.a else zeroBal
    c := if (hb m.kind 6 && m.has) || hb m.kind 7 then m.c else zeroC
    v := if hb m.kind 8 then m.v else zeroV
    y := if hb m.kind 9 then m.y else [] }
def sameM (a b : MsgD) : Bool :=
  decide (a.kind = b.kind) && (decide (a.who = b.who) && (decide (a.vw = b.vw) && (decide (a.sl = b.sl) && (decide (a.num = b.num) && (decide (a.hops = b.hops) && (decide (a.b = b.b) && (decide (a.a = b.a) && (decide (a.has = b.has) && (sameC a.c b.c && (sameB a.v b.v && decide (a.y = b.y)))))))))))
/-- P10.1 -/
def msgChk (m : MsgD) : Bool :=
  decide (flN m.kind ≠ 0) && (sameM m (onlyM m) && (decide (m.vw ≤ 4611686018427387904 ∧ m.sl ≤ 4611686018427387904 ∧ m.num ≤ 4611686018427387904) && (decide (0 ≤ m.hops ∧ m.hops ≤ 4) && (decide (m.y.length ≤ 200) &&
  ((!hb m.kind 0 || mayP m.who) && ((!hb m.kind 3 || mayP m.b.2) && ((!m.has || (mayP m.a.2 && decide (cmdChk m.c = 0))) && ((!hb m.kind 7 || decide (cmdChk m.c = 0)) && (!hb m.kind 8 || refCheckB m.v)))))))))
def balF (b : Bal) : List Nat := short b.1 ++ pidF b.2
def letF (m : MsgD) (i : Nat) : List Nat :=
  if i = 0 then pidF m.who else if i = 1 then short m.vw else if i = 2 then short m.sl else if i = 3 then balF m.b else if i = 4 then short m.num else if i = 5 then short m.hops.toNat
  else if i = 6 then (if m.has then short 1 ++ (balF m.a ++ cmdF m.c) else short 0)
  else if i = 7 then cmdF m.c else if i = 8 then viewF m.v else short m.y.length ++ m.y
def msgF (m : MsgD) : List Nat := short m.kind.toNat ++ (ltrs m.kind).flatMap (letF m)
/-! ### the readers -/
/-! ### what was laid is read as it was -/
theorem sameB_eq {a b : View} (h : sameB a b = true) : a = b := by
  obtain ⟨a1, a2, a3, a4⟩ := a
  obtain ⟨b1, b2, b3, b4⟩ := b
  unfold sameB at h
  simp only [Bool.and_eq_true, decide_eq_true_eq] at h
  obtain ⟨h1, h2, h3, h4⟩ := h
  subst h1 h2 h3 h4; rfl
theorem sameC_eq {a b : CmdD} (h : sameC a b = true) : a = b := by
  obtain ⟨a1, a2, a3, a4, a5, a6⟩ := a
  obtain ⟨b1, b2, b3, b4, b5, b6⟩ := b
  unfold sameC at h
  simp only [Bool.and_eq_true, decide_eq_true_eq] at h
  obtain ⟨h1, h2, h3, h4, h5, h6⟩ := h
  have h6 := sameB_eq h6
  subst h1 h2 h3 h4 h5 h6; rfl
theorem sameM_eq {a b : MsgD} (h : sameM a b = true) : a = b := by
  obtain ⟨a1, a2, a3, a4, a5, a6, a7, a8, a9, a10, a11, a12⟩ := a
  obtain ⟨b1, b2, b3, b4, b5, b6, b7, b8, b9, b10, b11, b12⟩ := b
  unfold sameM at h
  simp only [Bool.and_eq_true, decide_eq_true_eq] at h
  obtain ⟨h1, h2, h3, h4, h5, h6, h7, h8, h9, h10, h11, h12⟩ := h
  have h10 := sameC_eq h10
  have h11 := sameB_eq h11
  subst h1 h2 h3 h4 h5 h6 h7 h8 h9 h10 h11 h12; rfl
structure MsgOk (m : MsgD) : Prop where
  f : flN m.kind ≠ 0
  only : m = onlyM m
  nums : m.vw ≤ 4611686018427387904 ∧ m.sl ≤ 4611686018427387904 ∧ m.num ≤ 4611686018427387904
  hops : 0 ≤ m.hops ∧ m.hops ≤ 4
  len : m.y.length ≤ 200
  who : hb m.kind 0 = true → mayP m.who = true
  b : hb m.kind 3 = true → mayP m.b.2 = true
  a : m.has = true → mayP m.a.2 = true ∧ cmdChk m.c = 0
  c : hb m.kind 7 = true → cmdChk m.c = 0
  v : hb m.kind 8 = true → refCheckB m.v = true
theorem msgChk_ok {m : MsgD} (h : msgChk m = true) : MsgOk m := by
  unfold msgChk at h
  simp only [Bool.and_eq_true, Bool.or_eq_true, Bool.not_eq_true', decide_eq_true_eq] at h
  obtain ⟨h1, h2, h3, h4, h5, h6, h7, h8, h9, h10⟩ := h
  exact ⟨h1, sameM_eq h2, h3, h4, h5, fun e => by simpa [e] using h6, fun e => by simpa [e] using h7, fun e => by simpa [e] using h8, fun e => by simpa [e] using h9, fun e => by simpa [e] using h10⟩
theorem MsgOk.inj {m : MsgD} (h : MsgOk m) : m.who = (if hb m.kind 0 then m.who else (0, 0)) ∧ m.vw = (if hb m.kind 1 then m.vw else 0) ∧ m.sl = (if hb m.kind 2 then m.sl else 0) ∧ m.b = (if hb m.kind 3 then m.b else zeroBal) ∧ m.num = (if hb m.kind 4 then m.num else 0) ∧ m.hops = (if hb m.kind 5 then m.hops else 0) ∧ m.has = (if hb m.kind 6 then m.has else false) ∧ m.a = (if hb m.kind 6 && m.has then m.a else zeroBal) ∧ m.c = (if (hb m.kind 6 && m.has) || hb m.kind 7 then m.c else zeroC) ∧ m.v = (if hb m.kind 8 then m.v else zeroV) ∧ m.y = (if hb m.kind 9 then m.y else []) :=
  ⟨congrArg MsgD.who h.only, congrArg MsgD.vw h.only, congrArg MsgD.sl h.only, congrArg MsgD.b h.only, congrArg MsgD.num h.only, congrArg MsgD.hops h.only, congrArg MsgD.has h.only, congrArg MsgD.a h.only, congrArg MsgD.c h.only, congrArg MsgD.v h.only, congrArg MsgD.y h.only⟩
end Go.Proofs.Ytbpfhclcjedkcaa

namespace Go.Proofs.Ytbpfhclcjedkcaa
open Go.RowKit
/-! ### messages in their boxes; fields, has -/
/-- where a message's rows lie -/
structure MA where
  da : Option Addr
  dc : Nat
  am : Option Addr
  cm : Nat
  al : Option Addr
  cl : Nat
  ad : Option Addr
  cd : Nat
  vm : Option Addr
  em : Nat
  vl : Option Addr
  el : Nat
  vd : Option Addr
  ed : Nat
  ya : Option Addr
  yc : Nat
def cmdV (A : MA) (c : CmdD) : Array Value := cmdL A.da A.am A.al A.ad A.dc A.cm A.cl A.cd c
def viewC (A : MA) (V : View) : Array Value := #[.int .u64 V.id, .slice A.vm V.ms.length A.em, .slice A.vl V.ls.length A.el, .slice A.vd V.ds.length A.ed]
def headL (m : MsgD) : List Value := [.int .i64 m.kind, .int .u16 m.who.1, .int .u32 m.who.2, .int .u64 m.vw, .int .u64 m.sl, .int .u64 m.num, .int .i64 m.hops, .int .u32 m.b.1, .int .u16 m.b.2.1, .int .u32 m.b.2.2, .int .u32 m.a.1, .int .u16 m.a.2.1, .int .u32 m.a.2.2, .bool m.has]
/-- a message's cells -/
def ML (A : MA) (m : MsgD) : List Value := headL m ++ ((cmdV A m.c).toList ++ ((viewC A m.v).toList ++ [.slice A.ya m.y.length A.yc]))
theorem ML_len (A : MA) (m : MsgD) : (ML A m).length = 29 := rfl
theorem infoM : (Try.prog.info? 46).map (·.size) = some 29 := by kernel_rfl
theorem infoML (A : MA) (m : MsgD) : (Try.prog.info? 46).map (·.size) = some (ML A m).length := infoM
theorem infoC : (Try.prog.info? 44).map (·.size) = some 10 := by kernel_rfl
def MsgBox (w : World) (b : Nat) (A : MA) (m : MsgD) : Prop := w.rangeAt b 0 (ML A m)
theorem MsgBox.cell {w : World} {b : Nat} {A : MA} {m : MsgD} (h : MsgBox w b A m) {j : Nat} {v : Value} (hv : (ML A m)[j]? = some v) : w.cell? ⟨b, j, none⟩ = some v := by
  have := h j v hv
  rwa [Nat.zero_add] at this
theorem MsgBox.lt {w : World} {b : Nat} {A : MA} {m : MsgD} (h : MsgBox w b A m) : b < w.heap.size := World.block_lt_of_cell? w _ (h.cell (j := 0) rfl)
theorem rangeAt_to {w w' : World} {b o B : Nat} {cs : List Value} (h : w.rangeAt b o cs) (hb : Below B w w') (hB : b < B) : w'.rangeAt b o cs := fun j v hv => (hb.cell (p := ⟨b, o + j, none⟩) (by exact hB)).trans (h j v hv)
theorem MsgBox.ext {w w' : World} {b B : Nat} {A : MA} {m : MsgD} (h : MsgBox w b A m) (hb : Below B w w') (hB : b < B) : MsgBox w' b A m := rangeAt_to h hb hB
theorem MsgBox.cmd {w : World} {b : Nat} {A : MA} {m : MsgD} (h : MsgBox w b A m) : w.rangeAt b 14 (cmdV A m.c).toList := fun j v hv => by
  have hj : j < 10 := (List.getElem?_eq_some_iff.1 hv).1
  refine h.cell (j := 14 + j) ?_
  unfold ML
  rw [List.getElem?_append_right (by show 14 ≤ 14 + j; omega), show 14 + j - (headL m).length = j from by show 14 + j - 14 = j; omega, List.getElem?_append_left (by show j < 10; exact hj)]
  exact hv
theorem MsgBox.view {w : World} {b : Nat} {A : MA} {m : MsgD} (h : MsgBox w b A m) : w.rangeAt b 24 (viewC A m.v).toList := fun j v hv => by
  have hj : j < 4 := (List.getElem?_eq_some_iff.1 hv).1
  refine h.cell (j := 24 + j) ?_
  unfold ML
  rw [List.getElem?_append_right (by show 14 ≤ 24 + j; omega), show 24 + j - (headL m).length = 10 + j from by show 24 + j - 14 = 10 + j; omega, List.getElem?_append_right (by show 10 ≤ 10 + j; omega), show 10 + j - ((cmdV A m.c).toList).length = j from by show 10 + j - 10 = j; omega, List.getElem?_append_left (by show j < 4; exact hj)]
  exact hv
theorem MsgBox.made (A : MA) (m : MsgD) (w : World) (t : TypeId) (fr : Nat × Nat) : MsgBox (w.alloc (.cells (ML A m).toArray t fr)) w.heap.size A m := fun j v hv => by
  rw [World.cell?_alloc_mark, Nat.zero_add]; simpa using hv
section
variable {ops : Array Oper} {rest : List Oper} {op : Oper} {a : Go.Act} {w : World} {Q : Exit → Go.Act → World → Prop} {x : Operand} {b : Nat} {A : MA} {m : MsgD}
/-- the whole message is read -/
theorem wpList_loadM (h : MsgBox w b A m) (hgd : op.guard = none) (ho : op.op = .load 46 x)
    (hx : a.eval x = .pointer (some ⟨b, 0, none⟩)) (hk : wpList Try.prog ops Q rest (a.put op.dst (.agg (ML A m).toArray)) w) : wpList Try.prog ops Q (op :: rest) a w :=
  wpList_load_mid hgd 46 x ho b 0 hx (ML A m) _ h Try.underlying46 rfl (infoML A m) hk
/-- its command -/
theorem wpList_loadMC (h : MsgBox w b A m) (hgd : op.guard = none) (ho : op.op = .load 44 x)
    (hx : a.eval x = .pointer (some ⟨b, 14, none⟩)) (hk : wpList Try.prog ops Q rest (a.put op.dst (.agg (cmdV A m.c))) w) : wpList Try.prog ops Q (op :: rest) a w :=
  wpList_load_mid hgd 44 x ho b 14 hx (cmdV A m.c).toList _ h.cmd Try.underlying44 rfl infoC hk
end
theorem fields_any (k : Int) (w : World) : Calls Try.prog 90 #[.int .i64 k] w fun e w' => e = .returned (.int .u64 (flN k)) ∧ w = w' := by
  rcases kinds k with rfl | rfl | rfl | rfl | rfl | rfl | rfl | rfl | rfl | rfl | rfl | rfl | rfl | rfl | ⟨h, h1, -⟩
  all_goals first
    | (go_enter Try.func90, Try.ntmps90
       go_wp2
       go_ret
       exact ⟨rfl, rfl⟩)
    | skip
  have t : ∀ j : Int, 1 ≤ j → j ≤ 14 → (k == j) = false := fun j h2 h3 => by simp only [beq_eq_false_iff_ne, ne_eq]; omega
  have t1 := t 1 (by decide) (by decide)
  have t2 := t 2 (by decide) (by decide)
  have t3 := t 3 (by decide) (by decide)
  have t4 := t 4 (by decide) (by decide)
  have t5 := t 5 (by decide) (by decide)
  have t6 := t 6 (by decide) (by decide)
  have t7 := t 7 (by decide) (by decide)
  have t8 := t 8 (by decide) (by decide)
  have t9 := t 9 (by decide) (by decide)
  have t10 := t 10 (by decide) (by decide)
  have t11 := t 11 (by decide) (by decide)
  have t12 := t 12 (by decide) (by decide)
  have t13 := t 13 (by decide) (by decide)
  have t14 := t 14 (by decide) (by decide)
  have H1 := hid h1
  clear t h h1
  go_enter Try.func90, Try.ntmps90
  go_wp2
  go_ret
  exact ⟨by rw [H1.out]; rfl, rfl⟩
theorem mhas_any (f i : Nat) (n : Nat) (hn : n = 2 ^ i) (hi : i < 10) (hf : f < 1024) (w : World) : Calls Try.prog 92 #[.int .u64 f, .int .u64 n] w fun e w' => e = .returned (.bool (hbF f i)) ∧ w = w' := by
  have hn2 : n < 2 ^ 64 := by rw [hn]; exact Nat.pow_lt_pow_right (by decide) (by omega)
  have e1 := (bits_nat .u64 64 (by decide) wraps_u64 f n (by omega) hn2).1
  have E : Hid (hbF f i = decide (f &&& n ≠ 0)) := hid (by rw [hn]; rfl)
  clear hn hn2 hf
  go_enter Try.func92, Try.ntmps92
  go_wp2
  go_ret
  exact ⟨by rw [E.out]; by_cases h : f &&& n = 0 <;> simp [h], rfl⟩
end Go.Proofs.Ytbpfhclcjedkcaa

namespace Go.Proofs.Ytbpfhclcjedkcaa
open Go.RowKit
/-! ### msg.Same and the reference's -/
structure MsgR (w : World) (A : MA) (m : MsgD) : Prop where
  c : CmdR w A.da A.am A.al A.ad m.c
  v : ViewR w A.vm A.vl A.vd m.v
  yr : ByteRow w A.ya m.y
  yb : ∀ b ∈ m.y, b < 256
  yl : m.y.length ≤ 70368744177664
theorem MsgR.ext {w w' : World} {A : MA} {m : MsgD} (h : MsgR w A m) (hb : Below w.heap.size w w') : MsgR w' A m := ⟨h.c.ext hb, h.v.ext hb, h.yr.ext hb, h.yb, h.yl⟩
section
variable {ops : Array Oper} {rest : List Oper} {op : Oper} {a : Go.Act} {w : World} {Q : Exit → Go.Act → World → Prop} {x : Operand} {b : Nat} {A : MA} {m : MsgD}
theorem wpList_loadMw (h : MsgBox w b A m) (hw : Region.wanted op (yielded ops a.tmps) = true) (ho : op.op = .load 46 x)
    (hx : a.eval x = .pointer (some ⟨b, 0, none⟩)) (hk : wpList Try.prog ops Q rest (a.put op.dst (.agg (ML A m).toArray)) w) : wpList Try.prog ops Q (op :: rest) a w :=
  wpList_step fun K hK => by rw [if_pos hw]; exact wp_load_mid 46 x ho b 0 hx (ML A m) _ h Try.underlying46 rfl (infoML A m) (hK _ _ hk)
theorem wpList_loadMCw (h : MsgBox w b A m) (hw : Region.wanted op (yielded ops a.tmps) = true) (ho : op.op = .load 44 x)
    (hx : a.eval x = .pointer (some ⟨b, 14, none⟩)) (hk : wpList Try.prog ops Q rest (a.put op.dst (.agg (cmdV A m.c))) w) : wpList Try.prog ops Q (op :: rest) a w :=
  wpList_step fun K hK => by rw [if_pos hw]; exact wp_load_mid 44 x ho b 14 hx (cmdV A m.c).toList _ h.cmd Try.underlying44 rfl infoC (hK _ _ hk)
end
theorem neq_bal (n a b m c d : Int) (w : World) : (binOp .neq 41 (.agg #[.int .u32 n, .int .u16 a, .int .u32 b]) (.agg #[.int .u32 m, .int .u16 c, .int .u32 d])).run Try.prog w = .ok (.bool (!decide ((n, a, b) = (m, c, d)))) w := by
  have hS : Try.prog.underlying 41 = some (.struct (Try.prog.fieldsOf 41)) := by kernel_rfl
  have hp : Try.prog.stoodInHeld 41 = false := by kernel_rfl
  rw [run_neq_struct, show (10000 : Nat) = 9999 + 1 from rfl, run_equalIn_agg w 9999 41 _ _ hS hp]
  simp only [Program.fieldsOf, Try.underlying41]
  go_simp
  by_cases h1 : n = m <;> by_cases h2 : a = c <;> by_cases h3 : b = d <;> simp [h1, h2, h3]
theorem eql_bal (n a b m c d : Int) (w : World) : (binOp .eql 41 (.agg #[.int .u32 n, .int .u16 a, .int .u32 b]) (.agg #[.int .u32 m, .int .u16 c, .int .u32 d])).run Try.prog w = .ok (.bool (decide ((n, a, b) = (m, c, d)))) w := by
  have hS : Try.prog.underlying 41 = some (.struct (Try.prog.fieldsOf 41)) := by kernel_rfl
  have hp : Try.prog.stoodInHeld 41 = false := by kernel_rfl
  rw [run_eql_struct, show (10000 : Nat) = 9999 + 1 from rfl, run_equalIn_agg w 9999 41 _ _ hS hp]
  simp only [Program.fieldsOf, Try.underlying41]
  go_simp
  by_cases h1 : n = m <;> by_cases h2 : a = c <;> by_cases h3 : b = d <;> simp [h1, h2, h3]
theorem bal_dec (x y : Bal) (r : Bool) (h : decide (x = y) = r) : decide (((x.1 : Int), x.2.1, x.2.2) = ((y.1 : Int), y.2.1, y.2.2)) = r := by
  obtain ⟨a, b, c⟩ := x
  obtain ⟨d, e, f⟩ := y
  rw [← h]
  by_cases h1 : a = d
  · subst h1; simp
  · have h2 : ¬ (a : Int) = (d : Int) := by omega
    simp [h1, h2]
theorem pid_dec (x y : Pid) (r : Bool) (h : decide (x = y) = r) : decide ((x.1, x.2) = (y.1, y.2)) = r := h
end Go.Proofs.Ytbpfhclcjedkcaa

namespace Go.Proofs.Ytbpfhclcjedkcaa
open Go.RowKit
/-! ### a box as a list of cells, written cell by cell -/
structure OutL (w : World) (q : Nat) (L : List Value) : Prop where
  r : w.rangeAt q 0 L
  f : ∀ j, w.frozen? ⟨q, j, none⟩ = false
theorem OutL.cell {w : World} {q : Nat} {L : List Value} (h : OutL w q L) {j : Nat} {v : Value} (hv : L[j]? = some v) : w.cell? ⟨q, j, none⟩ = some v := by
  have := h.r j v hv
  rwa [Nat.zero_add] at this
theorem OutL.set {w : World} {q : Nat} {L : List Value} (h : OutL w q L) {j : Nat} (hj : j < L.length) (v : Value) : OutL (w.setCell ⟨q, j, none⟩ v) q (L.set j v) := by
  refine ⟨fun i u hu => ?_, fun i => by simp [h.f i]⟩
  rw [Nat.zero_add]
  by_cases e : i = j
  · subst e
    rw [List.getElem?_set_self hj] at hu
    cases hu
    exact World.cell?_setCell_same _ _ _ (h.cell (List.getElem?_eq_getElem hj))
  · rw [List.getElem?_set_ne (fun e2 => e e2.symm)] at hu
    rw [World.cell?_setCell_other _ _ _ _ (by intro e2; injection e2 with _ e3; exact e e3.symm)]
    exact h.cell hu
def setsL : List Value → Nat → List Value → List Value
  | L, _, [] => L
  | L, o, v :: vs => setsL (L.set o v) (o + 1) vs
theorem OutL.sets {q : Nat} : ∀ {vs : List Value} {w : World} {L : List Value} {o : Nat}, OutL w q L → o + vs.length ≤ L.length → OutL (w.setCells q o vs) q (setsL L o vs)
  | [], _, _, _, h, _ => h
  | v :: vs, w, L, o, h, hl => by
    simp only [List.length_cons] at hl
    exact OutL.sets (vs := vs) (h.set (j := o) (by omega) v) (by rw [List.length_set]; omega)
theorem OutL.there {w : World} {q : Nat} {L : List Value} (h : OutL w q L) {o n : Nat} (hl : o + n ≤ L.length) : w.there q o n := fun j hj => ⟨by rw [h.cell (List.getElem?_eq_getElem (show o + j < L.length by omega))]; rfl, h.f _⟩
theorem OutL.lt {w : World} {q : Nat} {L : List Value} (h : OutL w q L) (hl : 0 < L.length) : q < w.heap.size := World.block_lt_of_cell? w _ (h.cell (j := 0) (List.getElem?_eq_getElem hl))
theorem OutL.ext {w w' : World} {q B : Nat} {L : List Value} (h : OutL w q L) (hb : Below B w w') (hB : q < B) : OutL w' q L :=
  ⟨rangeAt_to h.r hb hB, fun j => (hb.frozen (p := ⟨q, j, none⟩) (by exact hB)).trans (h.f j)⟩
theorem OutL.made (L : List Value) (w : World) (t : TypeId) : OutL (w.alloc (.cells L.toArray t)) w.heap.size L :=
  ⟨fun j v hv => by rw [World.cell?_alloc_mark, Nat.zero_add]; simpa using hv, fun j => by simp⟩
theorem below_setCells {B b : Nat} : ∀ (vs : List Value) (o : Nat) {w0 w : World}, Below B w0 w → B ≤ b → Below B w0 (w.setCells b o vs)
  | [], _, _, _, h, _ => h
  | v :: vs, o, _, _, h, hb => below_setCells vs (o + 1) (h.setCell (by simpa using hb) _) hb
theorem results_cell_mid {P : Program} {fn : Func} {p : Tmp} {ty : TypeId} (h : fn.results = #[.cell p ty]) (tmps : Array Value) (w : World) (b o : Nat) (cs : List Value) (d : TypeDesc)
    (hp : tmps.getD p undef = .pointer (some ⟨b, o, none⟩)) (hc : w.rangeAt b o cs)
    (hu : P.underlying ty = some d) (hd : d.isRow = true) (hi : (P.info? ty).map (·.size) = some cs.length) :
    (results fn tmps).run P w = .ok (.agg cs.toArray) w := by
  have hp' : tmps[p]?.getD undef = .pointer (some ⟨b, o, none⟩) := by simpa using hp
  simp [results, h, hp', asAddr, run_loadVar_mid w b o ty cs d hc hu hd hi]
theorem ML_one (A : MA) (m : MsgD) : (ML A m).toArray.all (·.oneCell') = true := by
  simp [ML, headL, cmdV, cmdL, viewC, Value.oneCell']
theorem cmdV_one (A : MA) (c : CmdD) : (cmdV A c).all (·.oneCell') = true := by
  simp [cmdV, cmdL, Value.oneCell']
section
variable {ops : Array Oper} {rest : List Oper} {op : Oper} {a : Go.Act} {w : World} {Q : Exit → Go.Act → World → Prop} {x y : Operand} {q : Nat} {A : MA} {m : MsgD}
theorem wpList_storeM (ht : w.there q 0 29) (hgd : op.guard = none) (ho : op.op = .store 46 x y)
    (hx : a.eval x = .pointer (some ⟨q, 0, none⟩)) (hy : a.eval y = .agg (ML A m).toArray) (hk : wpList Try.prog ops Q rest (a.put op.dst undef) (w.setCells q 0 (ML A m))) : wpList Try.prog ops Q (op :: rest) a w :=
  wpList_store_mid hgd 46 x y ho q 0 (ML A m).toArray hx hy ht infoM (ML_one A m) hk
theorem wpList_storeMC {c : CmdD} (ht : w.there q 14 10) (hgd : op.guard = none) (ho : op.op = .store 44 x y)
    (hx : a.eval x = .pointer (some ⟨q, 14, none⟩)) (hy : a.eval y = .agg (cmdV A c)) (hk : wpList Try.prog ops Q rest (a.put op.dst undef) (w.setCells q 14 (cmdV A c).toList)) : wpList Try.prog ops Q (op :: rest) a w :=
  wpList_store_mid hgd 44 x y ho q 14 (cmdV A c) hx hy ht infoC (cmdV_one A c) hk
end
/-! ### has, by its bits -/
theorem mhas0 {k : Int} {f : Nat} {r : Bool} {w : World} (hf : Hid (flN k = f)) (h : Hid (hb k 0 = r)) : Calls Try.prog 92 #[.int .u64 f, .int .u64 1] w fun e w' => e = .returned (.bool r) ∧ w = w' := by
  have := mhas_any f 0 1 rfl (by decide) (by rw [← hf.out]; exact flN_lt k) w
  rw [← hf.out, show hbF (flN k) 0 = r from h.out, hf.out] at this
  exact this
theorem mhas1 {k : Int} {f : Nat} {r : Bool} {w : World} (hf : Hid (flN k = f)) (h : Hid (hb k 1 = r)) : Calls Try.prog 92 #[.int .u64 f, .int .u64 2] w fun e w' => e = .returned (.bool r) ∧ w = w' := by
  have := mhas_any f 1 2 rfl (by decide) (by rw [← hf.out]; exact flN_lt k) w
  rw [← hf.out, show hbF (flN k) 1 = r from h.out, hf.out] at this
  exact this
theorem mhas2 {k : Int} {f : Nat} {r : Bool} {w : World} (hf : Hid (flN k = f)) (h : Hid (hb k 2 = r)) : Calls Try.prog 92 #[.int .u64 f, .int .u64 4] w fun e w' => e = .returned (.bool r) ∧ w = w' := by
  have := mhas_any f 2 4 rfl (by decide) (by rw [← hf.out]; exact flN_lt k) w
  rw [← hf.out, show hbF (flN k) 2 = r from h.out, hf.out] at this
  exact this
theorem mhas3 {k : Int} {f : Nat} {r : Bool} {w : World} (hf : Hid (flN k = f)) (h : Hid (hb k 3 = r)) : Calls Try.prog 92 #[.int .u64 f, .int .u64 8] w fun e w' => e = .returned (.bool r) ∧ w = w' := by
  have := mhas_any f 3 8 rfl (by decide) (by rw [← hf.out]; exact flN_lt k) w
  rw [← hf.out, show hbF (flN k) 3 = r from h.out, hf.out] at this
  exact this
theorem mhas4 {k : Int} {f : Nat} {r : Bool} {w : World} (hf : Hid (flN k = f)) (h : Hid (hb k 4 = r)) : Calls Try.prog 92 #[.int .u64 f, .int .u64 16] w fun e w' => e = .returned (.bool r) ∧ w = w' := by
  have := mhas_any f 4 16 rfl (by decide) (by rw [← hf.out]; exact flN_lt k) w
  rw [← hf.out, show hbF (flN k) 4 = r from h.out, hf.out] at this
  exact this
theorem mhas5 {k : Int} {f : Nat} {r : Bool} {w : World} (hf : Hid (flN k = f)) (h : Hid (hb k 5 = r)) : Calls Try.prog 92 #[.int .u64 f, .int .u64 32] w fun e w' => e = .returned (.bool r) ∧ w = w' := by
  have := mhas_any f 5 32 rfl (by decide) (by rw [← hf.out]; exact flN_lt k) w
  rw [← hf.out, show hbF (flN k) 5 = r from h.out, hf.out] at this
  exact this
theorem mhas6 {k : Int} {f : Nat} {r : Bool} {w : World} (hf : Hid (flN k = f)) (h : Hid (hb k 6 = r)) : Calls Try.prog 92 #[.int .u64 f, .int .u64 64] w fun e w' => e = .returned (.bool r) ∧ w = w' := by
  have := mhas_any f 6 64 rfl (by decide) (by rw [← hf.out]; exact flN_lt k) w
  rw [← hf.out, show hbF (flN k) 6 = r from h.out, hf.out] at this
  exact this
theorem mhas7 {k : Int} {f : Nat} {r : Bool} {w : World} (hf : Hid (flN k = f)) (h : Hid (hb k 7 = r)) : Calls Try.prog 92 #[.int .u64 f, .int .u64 128] w fun e w' => e = .returned (.bool r) ∧ w = w' := by
  have := mhas_any f 7 128 rfl (by decide) (by rw [← hf.out]; exact flN_lt k) w
  rw [← hf.out, show hbF (flN k) 7 = r from h.out, hf.out] at this
  exact this
theorem mhas8 {k : Int} {f : Nat} {r : Bool} {w : World} (hf : Hid (flN k = f)) (h : Hid (hb k 8 = r)) : Calls Try.prog 92 #[.int .u64 f, .int .u64 256] w fun e w' => e = .returned (.bool r) ∧ w = w' := by
  have := mhas_any f 8 256 rfl (by decide) (by rw [← hf.out]; exact flN_lt k) w
  rw [← hf.out, show hbF (flN k) 8 = r from h.out, hf.out] at this
  exact this
theorem mhas9 {k : Int} {f : Nat} {r : Bool} {w : World} (hf : Hid (flN k = f)) (h : Hid (hb k 9 = r)) : Calls Try.prog 92 #[.int .u64 f, .int .u64 512] w fun e w' => e = .returned (.bool r) ∧ w = w' := by
  have := mhas_any f 9 512 rfl (by decide) (by rw [← hf.out]; exact flN_lt k) w
  rw [← hf.out, show hbF (flN k) 9 = r from h.out, hf.out] at this
  exact this
/-! ### the message with the first fields of its kind -/
def zeroA : MA := ⟨none, 0, none, 0, none, 0, none, 0, none, 0, none, 0, none, 0, none, 0⟩
def inC (m : MsgD) (j : Nat) : Bool := ((hb m.kind 6 && m.has) && decide (6 < j)) || (hb m.kind 7 && decide (7 < j))
def inV (m : MsgD) (j : Nat) : Bool := hb m.kind 8 && decide (8 < j)
def inY (m : MsgD) (j : Nat) : Bool := hb m.kind 9 && decide (9 < j)
def onlyK (m : MsgD) (j : Nat) : MsgD :=
  { kind := m.kind
    who := if hb m.kind 0 && decide (0 < j) then m.who else (0, 0)
    vw := if hb m.kind 1 && decide (1 < j) then m.vw else 0
    sl := if hb m.kind 2 && decide (2 < j) then m.sl else 0
    b := if hb m.kind 3 && decide (3 < j) then m.b else zeroBal
    num := if hb m.kind 4 && decide (4 < j) then m.num else 0
    hops := if hb m.kind 5 && decide (5 < j) then m.hops else 0
    has := if hb m.kind 6 && decide (6 < j) then m.has else false
    a := if (hb m.kind 6 && m.has) && decide (6 < j) then m.a else zeroBal
    c := if inC m j then m.c else zeroC
    v := if inV m j then m.v else zeroV
    y := if inY m j then m.y else [] }
def selA (A : MA) (m : MsgD) (j : Nat) : MA :=
  { da := if inC m j then A.da else none, dc := if inC m j then A.dc else 0
    am := if inC m j then A.am else none, cm := if inC m j then A.cm else 0
    al := if inC m j then A.al else none, cl := if inC m j then A.cl else 0
    ad := if inC m j then A.ad else none, cd := if inC m j then A.cd else 0
    vm := if inV m j then A.vm else none, em := if inV m j then A.em else 0
    vl := if inV m j then A.vl else none, el := if inV m j then A.el else 0
    vd := if inV m j then A.vd else none, ed := if inV m j then A.ed else 0
    ya := if inY m j then A.ya else none, yc := if inY m j then A.yc else 0 }
theorem onlyK_10 (m : MsgD) : onlyK m 10 = onlyM m := by
  simp [onlyK, onlyM, inC, inV, inY]
theorem onlyL_0 (A : MA) (m : MsgD) : ML (selA A m 0) (onlyK m 0) = [.int .i64 m.kind, .int .u16 0, .int .u32 0, .int .u64 0, .int .u64 0, .int .u64 0, .int .i64 0, .int .u32 0, .int .u16 0, .int .u32 0, .int .u32 0, .int .u16 0, .int .u32 0, .bool false, .int .i64 0, .int .u16 0, .int .u32 0, .int .u64 0, .int .u64 0, .slice none 0 0, .int .u64 0, .slice none 0 0, .slice none 0 0, .slice none 0 0, .int .u64 0, .slice none 0 0, .slice none 0 0, .slice none 0 0, .slice none 0 0] := by
  simp [onlyK, selA, inC, inV, inY, ML, headL, cmdV, cmdL, viewC, zeroBal, zeroC, zeroV]
theorem onlyL_1_no {A : MA} {m : MsgD} (h : hb m.kind 0 = false) : ML (selA A m 1) (onlyK m 1) = ML (selA A m 0) (onlyK m 0) := by
  simp [onlyK, selA, inC, inV, inY, h]
theorem onlyL_1_yes {A : MA} {m : MsgD} (h : hb m.kind 0 = true) : ML (selA A m 1) (onlyK m 1) = ((ML (selA A m 0) (onlyK m 0)).set 1 (.int .u16 m.who.1)).set 2 (.int .u32 m.who.2) := by
  simp [onlyK, selA, inC, inV, inY, h, ML, headL, cmdV, cmdL, viewC]
theorem onlyL_2_no {A : MA} {m : MsgD} (h : hb m.kind 1 = false) : ML (selA A m 2) (onlyK m 2) = ML (selA A m 1) (onlyK m 1) := by
  simp [onlyK, selA, inC, inV, inY, h]
theorem onlyL_2_yes {A : MA} {m : MsgD} (h : hb m.kind 1 = true) : ML (selA A m 2) (onlyK m 2) = (ML (selA A m 1) (onlyK m 1)).set 3 (.int .u64 m.vw) := by
  simp [onlyK, selA, inC, inV, inY, h, ML, headL, cmdV, cmdL, viewC]
theorem onlyL_3_no {A : MA} {m : MsgD} (h : hb m.kind 2 = false) : ML (selA A m 3) (onlyK m 3) = ML (selA A m 2) (onlyK m 2) := by
  simp [onlyK, selA, inC, inV, inY, h]
theorem onlyL_3_yes {A : MA} {m : MsgD} (h : hb m.kind 2 = true) : ML (selA A m 3) (onlyK m 3) = (ML (selA A m 2) (onlyK m 2)).set 4 (.int .u64 m.sl) := by
  simp [onlyK, selA, inC, inV, inY, h, ML, headL, cmdV, cmdL, viewC]
theorem onlyL_4_no {A : MA} {m : MsgD} (h : hb m.kind 3 = false) : ML (selA A m 4) (onlyK m 4) = ML (selA A m 3) (onlyK m 3) := by
  simp [onlyK, selA, inC, inV, inY, h]
theorem onlyL_4_yes {A : MA} {m : MsgD} (h : hb m.kind 3 = true) : ML (selA A m 4) (onlyK m 4) = (((ML (selA A m 3) (onlyK m 3)).set 7 (.int .u32 m.b.1)).set 8 (.int .u16 m.b.2.1)).set 9 (.int .u32 m.b.2.2) := by
  simp [onlyK, selA, inC, inV, inY, h, ML, headL, cmdV, cmdL, viewC]
theorem onlyL_5_no {A : MA} {m : MsgD} (h : hb m.kind 4 = false) : ML (selA A m 5) (onlyK m 5) = ML (selA A m 4) (onlyK m 4) := by
  simp [onlyK, selA, inC, inV, inY, h]
theorem onlyL_5_yes {A : MA} {m : MsgD} (h : hb m.kind 4 = true) : ML (selA A m 5) (onlyK m 5) = (ML (selA A m 4) (onlyK m 4)).set 5 (.int .u64 m.num) := by
  simp [onlyK, selA, inC, inV, inY, h, ML, headL, cmdV, cmdL, viewC]
theorem onlyL_6_no {A : MA} {m : MsgD} (h : hb m.kind 5 = false) : ML (selA A m 6) (onlyK m 6) = ML (selA A m 5) (onlyK m 5) := by
  simp [onlyK, selA, inC, inV, inY, h]
theorem onlyL_6_yes {A : MA} {m : MsgD} (h : hb m.kind 5 = true) : ML (selA A m 6) (onlyK m 6) = (ML (selA A m 5) (onlyK m 5)).set 6 (.int .i64 m.hops) := by
  simp [onlyK, selA, inC, inV, inY, h, ML, headL, cmdV, cmdL, viewC]
theorem onlyL_7_no {A : MA} {m : MsgD} (h : hb m.kind 6 = false) : ML (selA A m 7) (onlyK m 7) = ML (selA A m 6) (onlyK m 6) := by
  simp [onlyK, selA, inC, inV, inY, h]
theorem onlyL_7_f {A : MA} {m : MsgD} (h : hb m.kind 6 = true) (hh : m.has = false) : ML (selA A m 7) (onlyK m 7) = (ML (selA A m 6) (onlyK m 6)).set 13 (.bool m.has) := by
  simp [onlyK, selA, inC, inV, inY, h, hh, ML, headL]
theorem onlyL_7_t {A : MA} {m : MsgD} (h : hb m.kind 6 = true) (hh : m.has = true) : ML (selA A m 7) (onlyK m 7) = setsL (((((ML (selA A m 6) (onlyK m 6)).set 13 (.bool m.has)).set 10 (.int .u32 m.a.1)).set 11 (.int .u16 m.a.2.1)).set 12 (.int .u32 m.a.2.2)) 14 (cmdV A m.c).toList := by
  simp [onlyK, selA, inC, inV, inY, h, hh, ML, headL, setsL, cmdV, cmdL, viewC]
theorem onlyL_8_no {A : MA} {m : MsgD} (h : hb m.kind 7 = false) : ML (selA A m 8) (onlyK m 8) = ML (selA A m 7) (onlyK m 7) := by
  simp [onlyK, selA, inC, inV, inY, h]
theorem onlyL_8_yes {A : MA} {m : MsgD} (h : hb m.kind 7 = true) : ML (selA A m 8) (onlyK m 8) = setsL (ML (selA A m 7) (onlyK m 7)) 14 (cmdV A m.c).toList := by
  simp [onlyK, selA, inC, inV, inY, h, ML, headL, setsL, cmdV, cmdL, viewC]
theorem onlyL_9_no {A : MA} {m : MsgD} (h : hb m.kind 8 = false) : ML (selA A m 9) (onlyK m 9) = ML (selA A m 8) (onlyK m 8) := by
  simp [onlyK, selA, inC, inV, inY, h]
theorem onlyL_9_yes {A : MA} {m : MsgD} (h : hb m.kind 8 = true) : ML (selA A m 9) (onlyK m 9) = ((((ML (selA A m 8) (onlyK m 8)).set 24 (.int .u64 m.v.id)).set 25 (.slice A.vm m.v.ms.length A.em)).set 26 (.slice A.vl m.v.ls.length A.el)).set 27 (.slice A.vd m.v.ds.length A.ed) := by
  simp [onlyK, selA, inC, inV, inY, h, ML, headL, cmdV, cmdL, viewC]
theorem onlyL_10_no {A : MA} {m : MsgD} (h : hb m.kind 9 = false) : ML (selA A m 10) (onlyK m 10) = ML (selA A m 9) (onlyK m 9) := by
  simp [onlyK, selA, inC, inV, inY, h]
theorem onlyL_10_yes {A : MA} {m : MsgD} (h : hb m.kind 9 = true) : ML (selA A m 10) (onlyK m 10) = (ML (selA A m 9) (onlyK m 9)).set 28 (.slice A.ya m.y.length A.yc) := by
  simp [onlyK, selA, inC, inV, inY, h, ML, headL, cmdV, cmdL, viewC]
set_option maxRecDepth 100000 in
set_option maxHeartbeats 12800000 in
theorem only_any {A : MA} {m : MsgD} {w : World} :
    Calls Try.prog 104 #[.agg (ML A m).toArray] w fun e w' => e = .returned (.agg (ML (selA A m 10) (onlyM m)).toArray) ∧ Below w.heap.size w w' := by
  obtain ⟨W2, hW2⟩ : ∃ W2, (w.alloc (.cells (ML A m).toArray 46)).alloc (.cells #[.int .i64 0, .int .u16 0, .int .u32 0, .int .u64 0, .int .u64 0, .int .u64 0, .int .i64 0, .int .u32 0, .int .u16 0, .int .u32 0, .int .u32 0, .int .u16 0, .int .u32 0, .bool false, .int .i64 0, .int .u16 0, .int .u32 0, .int .u64 0, .int .u64 0, .slice none 0 0, .int .u64 0, .slice none 0 0, .slice none 0 0, .slice none 0 0, .int .u64 0, .slice none 0 0, .slice none 0 0, .slice none 0 0, .slice none 0 0] 46) = W2 := ⟨_, rfl⟩
  have hz2 : W2.heap.size = w.heap.size + 2 := by rw [← hW2]; simp
  have hB2 : Below w.heap.size w W2 := by rw [← hW2]; exact ((Below.refl _ _).alloc (Nat.le_refl _) _).alloc (by simp) _
  have xA : MsgBox W2 w.heap.size A m := by rw [← hW2]; exact (MsgBox.made A m w _ _).ext ((Below.refl _ _).alloc (Nat.le_refl _) _) (by simp)
  have xR : OutL W2 (w.heap.size + 1) [.int .i64 0, .int .u16 0, .int .u32 0, .int .u64 0, .int .u64 0, .int .u64 0, .int .i64 0, .int .u32 0, .int .u16 0, .int .u32 0, .int .u32 0, .int .u16 0, .int .u32 0, .bool false, .int .i64 0, .int .u16 0, .int .u32 0, .int .u64 0, .int .u64 0, .slice none 0 0, .int .u64 0, .slice none 0 0, .slice none 0 0, .slice none 0 0, .int .u64 0, .slice none 0 0, .slice none 0 0, .slice none 0 0, .slice none 0 0] := by
    rw [← hW2]
    have := OutL.made [.int .i64 0, .int .u16 0, .int .u32 0, .int .u64 0, .int .u64 0, .int .u64 0, .int .i64 0, .int .u32 0, .int .u16 0, .int .u32 0, .int .u32 0, .int .u16 0, .int .u32 0, .bool false, .int .i64 0, .int .u16 0, .int .u32 0, .int .u64 0, .int .u64 0, .slice none 0 0, .int .u64 0, .slice none 0 0, .slice none 0 0, .slice none 0 0, .int .u64 0, .slice none 0 0, .slice none 0 0, .slice none 0 0, .slice none 0 0] (w.alloc (.cells (ML A m).toArray 46)) 46
    simpa using this
  obtain ⟨WZ, hWZ⟩ : ∃ WZ, W2.alloc (.cells #[.int .i64 0, .int .u16 0, .int .u32 0, .int .u64 0, .int .u64 0, .int .u64 0, .int .i64 0, .int .u32 0, .int .u16 0, .int .u32 0, .int .u32 0, .int .u16 0, .int .u32 0, .bool false, .int .i64 0, .int .u16 0, .int .u32 0, .int .u64 0, .int .u64 0, .slice none 0 0, .int .u64 0, .slice none 0 0, .slice none 0 0, .slice none 0 0, .int .u64 0, .slice none 0 0, .slice none 0 0, .slice none 0 0, .slice none 0 0] 46) = WZ := ⟨_, rfl⟩
  have oz : OutL WZ W2.heap.size [.int .i64 0, .int .u16 0, .int .u32 0, .int .u64 0, .int .u64 0, .int .u64 0, .int .i64 0, .int .u32 0, .int .u16 0, .int .u32 0, .int .u32 0, .int .u16 0, .int .u32 0, .bool false, .int .i64 0, .int .u16 0, .int .u32 0, .int .u64 0, .int .u64 0, .slice none 0 0, .int .u64 0, .slice none 0 0, .slice none 0 0, .slice none 0 0, .int .u64 0, .slice none 0 0, .slice none 0 0, .slice none 0 0, .slice none 0 0] := by rw [← hWZ]; exact OutL.made _ _ _
  have hBZ : Below W2.heap.size W2 WZ := by rw [← hWZ]; exact (Below.refl _ _).alloc (Nat.le_refl _) _
  have ht0 : WZ.there W2.heap.size 0 29 := oz.there (by simp)
  obtain ⟨W3, hW3⟩ : ∃ W3, WZ.setCells W2.heap.size 0 (ML zeroA { zeroM with kind := m.kind }) = W3 := ⟨_, rfl⟩
  have hB3 : Below W2.heap.size W2 W3 := by rw [← hW3]; exact below_setCells _ _ hBZ (Nat.le_refl _)
  have ho : OutL W3 W2.heap.size (ML (selA A m 0) (onlyK m 0)) := by
    have h1 := oz.sets (vs := ML zeroA { zeroM with kind := m.kind }) (o := 0) (by simp [ML_len])
    rw [hW3] at h1
    have e : setsL [.int .i64 0, .int .u16 0, .int .u32 0, .int .u64 0, .int .u64 0, .int .u64 0, .int .i64 0, .int .u32 0, .int .u16 0, .int .u32 0, .int .u32 0, .int .u16 0, .int .u32 0, .bool false, .int .i64 0, .int .u16 0, .int .u32 0, .int .u64 0, .int .u64 0, .slice none 0 0, .int .u64 0, .slice none 0 0, .slice none 0 0, .slice none 0 0, .int .u64 0, .slice none 0 0, .slice none 0 0, .slice none 0 0, .slice none 0 0] 0 (ML zeroA { zeroM with kind := m.kind }) = ML (selA A m 0) (onlyK m 0) := by
      rw [onlyL_0]; simp [setsL, ML, headL, cmdV, cmdL, viewC, zeroM, zeroA, zeroBal, zeroC, zeroV]
    rw [e] at h1
    exact h1
  have HXA : Hid (∀ W, Below W2.heap.size W3 W → MsgBox W w.heap.size A m) := hid fun W h => (xA.ext hB3 (by omega)).ext h (by omega)
  have HXR : Hid (∀ W, Below W2.heap.size W3 W → OutL W (w.heap.size + 1) [.int .i64 0, .int .u16 0, .int .u32 0, .int .u64 0, .int .u64 0, .int .u64 0, .int .i64 0, .int .u32 0, .int .u16 0, .int .u32 0, .int .u32 0, .int .u16 0, .int .u32 0, .bool false, .int .i64 0, .int .u16 0, .int .u32 0, .int .u64 0, .int .u64 0, .slice none 0 0, .int .u64 0, .slice none 0 0, .slice none 0 0, .slice none 0 0, .int .u64 0, .slice none 0 0, .slice none 0 0, .slice none 0 0, .slice none 0 0]) := hid fun W h => (xR.ext hB3 (by omega)).ext h (by omega)
  have HB2 := hid (hB2.trans (hB3.mono (by omega)))
  have HZ2 := hid hz2
  have a0 : W2.cell? ⟨w.heap.size, 0, none⟩ = some (.int .i64 m.kind) := xA.cell rfl
  obtain ⟨f, hf⟩ : ∃ f, flN m.kind = f := ⟨_, rfl⟩
  have HF := hid hf
  have FL := hid (fields_any m.kind W2)
  rw [hf] at FL
  obtain ⟨r0, hr0⟩ : ∃ r, hb m.kind 0 = r := ⟨_, rfl⟩
  have HR0 := hid hr0
  obtain ⟨r1, hr1⟩ : ∃ r, hb m.kind 1 = r := ⟨_, rfl⟩
  have HR1 := hid hr1
  obtain ⟨r2, hr2⟩ : ∃ r, hb m.kind 2 = r := ⟨_, rfl⟩
  have HR2 := hid hr2
  obtain ⟨r3, hr3⟩ : ∃ r, hb m.kind 3 = r := ⟨_, rfl⟩
  have HR3 := hid hr3
  obtain ⟨r4, hr4⟩ : ∃ r, hb m.kind 4 = r := ⟨_, rfl⟩
  have HR4 := hid hr4
  obtain ⟨r5, hr5⟩ : ∃ r, hb m.kind 5 = r := ⟨_, rfl⟩
  have HR5 := hid hr5
  obtain ⟨r6, hr6⟩ : ∃ r, hb m.kind 6 = r := ⟨_, rfl⟩
  have HR6 := hid hr6
  obtain ⟨r7, hr7⟩ : ∃ r, hb m.kind 7 = r := ⟨_, rfl⟩
  have HR7 := hid hr7
  obtain ⟨r8, hr8⟩ : ∃ r, hb m.kind 8 = r := ⟨_, rfl⟩
  have HR8 := hid hr8
  obtain ⟨r9, hr9⟩ : ∃ r, hb m.kind 9 = r := ⟨_, rfl⟩
  have HR9 := hid hr9
  clear hf hz2 hB2 hB3 hBZ oz xA xR hr0 hr1 hr2 hr3 hr4 hr5 hr6 hr7 hr8 hr9
  have HO := hid ho
  have HBW : Hid (Below W2.heap.size W3 W3) := hid (Below.refl _ _)
  clear ho
  go_enter Try.func104, Try.ntmps104
  go_upto_if 12 with (first
    | (go_at_call 92; (with_reducible refine (mhas0 HF HR0).mono ?_); rintro e wz ⟨rfl, rfl⟩)
    | (refine wpList_storeM (A := zeroA) (m := { zeroM with kind := m.kind }) ht0 rfl rfl rfl rfl ?_; rw [hW3])
    | (go_at_call 90; (with_reducible refine FL.out.mono ?_); rintro e wz ⟨rfl, rfl⟩))
  clear a0
  go_cut [4] (fun s wx => s = .pointer (some ⟨W2.heap.size, 0, none⟩) ∧ OutL wx W2.heap.size (ML (selA A m 1) (onlyK m 1)) ∧ Below W2.heap.size W3 wx)
  case first =>
    cases r0
    case false =>
      go_wp2_with fail
      go_meet
      exact ⟨rfl, by rw [onlyL_1_no HR0.out]; exact HO.out, HBW.out⟩
    case true =>
      have a1 : W3.cell? ⟨w.heap.size, 1, none⟩ = some (.int .u16 m.who.1) := (HXA.out _ HBW.out).cell rfl
      have a2 : W3.cell? ⟨w.heap.size, 2, none⟩ = some (.int .u32 m.who.2) := (HXA.out _ HBW.out).cell rfl
      obtain ⟨u1, o1⟩ : ∃ u, W3.cell? ⟨W2.heap.size, 1, none⟩ = some u := ⟨_, HO.out.cell rfl⟩
      have f1 := HO.out.f 1
      obtain ⟨u2, o2⟩ : ∃ u, W3.cell? ⟨W2.heap.size, 2, none⟩ = some u := ⟨_, HO.out.cell rfl⟩
      have f2 := HO.out.f 2
      go_wp2_with fail
      go_meet
      exact ⟨rfl, by rw [onlyL_1_yes HR0.out]; exact ((HO.out).set (j := 1) (by simp only [List.length_set, ML_len]; decide) _).set (j := 2) (by simp only [List.length_set, ML_len]; decide) _, below_set (below_set (HBW.out) (Nat.le_refl _)) (Nat.le_refl _)⟩
  case rest =>
  obtain ⟨rfl, ho0, hbw0⟩ := hcut
  rename World => wc0
  clear HO HBW
  have HO := hid ho0
  have HBW := hid hbw0
  clear ho0 hbw0
  go_upto_if 17 with (first
    | (go_at_call 92; (with_reducible refine (mhas1 HF HR1).mono ?_); rintro e wz ⟨rfl, rfl⟩))
  go_cut [4] (fun s wx => s = .pointer (some ⟨W2.heap.size, 0, none⟩) ∧ OutL wx W2.heap.size (ML (selA A m 2) (onlyK m 2)) ∧ Below W2.heap.size W3 wx)
  case first =>
    cases r1
    case false =>
      go_wp2_with fail
      go_meet
      exact ⟨rfl, by rw [onlyL_2_no HR1.out]; exact HO.out, HBW.out⟩
    case true =>
      have a3 : wc0.cell? ⟨w.heap.size, 3, none⟩ = some (.int .u64 m.vw) := (HXA.out _ HBW.out).cell rfl
      obtain ⟨u3, o3⟩ : ∃ u, wc0.cell? ⟨W2.heap.size, 3, none⟩ = some u := ⟨_, HO.out.cell rfl⟩
      have f3 := HO.out.f 3
      go_wp2_with fail
      go_meet
      exact ⟨rfl, by rw [onlyL_2_yes HR1.out]; exact (HO.out).set (j := 3) (by simp only [List.length_set, ML_len]; decide) _, below_set (HBW.out) (Nat.le_refl _)⟩
  case rest =>
  obtain ⟨rfl, ho1, hbw1⟩ := hcut
  rename World => wc1
  clear HO HBW
  have HO := hid ho1
  have HBW := hid hbw1
  clear ho1 hbw1
  go_upto_if 22 with (first
    | (go_at_call 92; (with_reducible refine (mhas2 HF HR2).mono ?_); rintro e wz ⟨rfl, rfl⟩))
  go_cut [4] (fun s wx => s = .pointer (some ⟨W2.heap.size, 0, none⟩) ∧ OutL wx W2.heap.size (ML (selA A m 3) (onlyK m 3)) ∧ Below W2.heap.size W3 wx)
  case first =>
    cases r2
    case false =>
      go_wp2_with fail
      go_meet
      exact ⟨rfl, by rw [onlyL_3_no HR2.out]; exact HO.out, HBW.out⟩
    case true =>
      have a4 : wc1.cell? ⟨w.heap.size, 4, none⟩ = some (.int .u64 m.sl) := (HXA.out _ HBW.out).cell rfl
      obtain ⟨u4, o4⟩ : ∃ u, wc1.cell? ⟨W2.heap.size, 4, none⟩ = some u := ⟨_, HO.out.cell rfl⟩
      have f4 := HO.out.f 4
      go_wp2_with fail
      go_meet
      exact ⟨rfl, by rw [onlyL_3_yes HR2.out]; exact (HO.out).set (j := 4) (by simp only [List.length_set, ML_len]; decide) _, below_set (HBW.out) (Nat.le_refl _)⟩
  case rest =>
  obtain ⟨rfl, ho2, hbw2⟩ := hcut
  rename World => wc2
  clear HO HBW
  have HO := hid ho2
  have HBW := hid hbw2
  clear ho2 hbw2
  go_upto_if 27 with (first
    | (go_at_call 92; (with_reducible refine (mhas3 HF HR3).mono ?_); rintro e wz ⟨rfl, rfl⟩))
  go_cut [4] (fun s wx => s = .pointer (some ⟨W2.heap.size, 0, none⟩) ∧ OutL wx W2.heap.size (ML (selA A m 4) (onlyK m 4)) ∧ Below W2.heap.size W3 wx)
  case first =>
    cases r3
    case false =>
      go_wp2_with fail
      go_meet
      exact ⟨rfl, by rw [onlyL_4_no HR3.out]; exact HO.out, HBW.out⟩
    case true =>
      have a7 : wc2.cell? ⟨w.heap.size, 7, none⟩ = some (.int .u32 m.b.1) := (HXA.out _ HBW.out).cell rfl
      have a8 : wc2.cell? ⟨w.heap.size, 8, none⟩ = some (.int .u16 m.b.2.1) := (HXA.out _ HBW.out).cell rfl
      have a9 : wc2.cell? ⟨w.heap.size, 9, none⟩ = some (.int .u32 m.b.2.2) := (HXA.out _ HBW.out).cell rfl
      obtain ⟨u7, o7⟩ : ∃ u, wc2.cell? ⟨W2.heap.size, 7, none⟩ = some u := ⟨_, HO.out.cell rfl⟩
      have f7 := HO.out.f 7
      obtain ⟨u8, o8⟩ : ∃ u, wc2.cell? ⟨W2.heap.size, 8, none⟩ = some u := ⟨_, HO.out.cell rfl⟩
      have f8 := HO.out.f 8
      obtain ⟨u9, o9⟩ : ∃ u, wc2.cell? ⟨W2.heap.size, 9, none⟩ = some u := ⟨_, HO.out.cell rfl⟩
      have f9 := HO.out.f 9
      go_wp2_with fail
      go_meet
      exact ⟨rfl, by rw [onlyL_4_yes HR3.out]; exact (((HO.out).set (j := 7) (by simp only [List.length_set, ML_len]; decide) _).set (j := 8) (by simp only [List.length_set, ML_len]; decide) _).set (j := 9) (by simp only [List.length_set, ML_len]; decide) _, below_set (below_set (below_set (HBW.out) (Nat.le_refl _)) (Nat.le_refl _)) (Nat.le_refl _)⟩
  case rest =>
  obtain ⟨rfl, ho3, hbw3⟩ := hcut
  rename World => wc3
  clear HO HBW
  have HO := hid ho3
  have HBW := hid hbw3
  clear ho3 hbw3
  go_upto_if 32 with (first
    | (go_at_call 92; (with_reducible refine (mhas4 HF HR4).mono ?_); rintro e wz ⟨rfl, rfl⟩))
  go_cut [4] (fun s wx => s = .pointer (some ⟨W2.heap.size, 0, none⟩) ∧ OutL wx W2.heap.size (ML (selA A m 5) (onlyK m 5)) ∧ Below W2.heap.size W3 wx)
  case first =>
    cases r4
    case false =>
      go_wp2_with fail
      go_meet
      exact ⟨rfl, by rw [onlyL_5_no HR4.out]; exact HO.out, HBW.out⟩
    case true =>
      have a5 : wc3.cell? ⟨w.heap.size, 5, none⟩ = some (.int .u64 m.num) := (HXA.out _ HBW.out).cell rfl
      obtain ⟨u5, o5⟩ : ∃ u, wc3.cell? ⟨W2.heap.size, 5, none⟩ = some u := ⟨_, HO.out.cell rfl⟩
      have f5 := HO.out.f 5
      go_wp2_with fail
      go_meet
      exact ⟨rfl, by rw [onlyL_5_yes HR4.out]; exact (HO.out).set (j := 5) (by simp only [List.length_set, ML_len]; decide) _, below_set (HBW.out) (Nat.le_refl _)⟩
  case rest =>
  obtain ⟨rfl, ho4, hbw4⟩ := hcut
  rename World => wc4
  clear HO HBW
  have HO := hid ho4
  have HBW := hid hbw4
  clear ho4 hbw4
  go_upto_if 37 with (first
    | (go_at_call 92; (with_reducible refine (mhas5 HF HR5).mono ?_); rintro e wz ⟨rfl, rfl⟩))
  go_cut [4] (fun s wx => s = .pointer (some ⟨W2.heap.size, 0, none⟩) ∧ OutL wx W2.heap.size (ML (selA A m 6) (onlyK m 6)) ∧ Below W2.heap.size W3 wx)
  case first =>
    cases r5
    case false =>
      go_wp2_with fail
      go_meet
      exact ⟨rfl, by rw [onlyL_6_no HR5.out]; exact HO.out, HBW.out⟩
    case true =>
      have a6 : wc4.cell? ⟨w.heap.size, 6, none⟩ = some (.int .i64 m.hops) := (HXA.out _ HBW.out).cell rfl
      obtain ⟨u6, o6⟩ : ∃ u, wc4.cell? ⟨W2.heap.size, 6, none⟩ = some u := ⟨_, HO.out.cell rfl⟩
      have f6 := HO.out.f 6
      go_wp2_with fail
      go_meet
      exact ⟨rfl, by rw [onlyL_6_yes HR5.out]; exact (HO.out).set (j := 6) (by simp only [List.length_set, ML_len]; decide) _, below_set (HBW.out) (Nat.le_refl _)⟩
  case rest =>
  obtain ⟨rfl, ho5, hbw5⟩ := hcut
  rename World => wc5
  clear HO HBW
  have HO := hid ho5
  have HBW := hid hbw5
  clear ho5 hbw5
  go_upto_if 42 with (first
    | (go_at_call 92; (with_reducible refine (mhas6 HF HR6).mono ?_); rintro e wz ⟨rfl, rfl⟩))
  go_cut [4] (fun s wx => s = .pointer (some ⟨W2.heap.size, 0, none⟩) ∧ OutL wx W2.heap.size (ML (selA A m 7) (onlyK m 7)) ∧ Below W2.heap.size W3 wx)
  case first =>
    cases r6
    case false =>
      go_wp2_with fail
      go_meet
      exact ⟨rfl, by rw [onlyL_7_no HR6.out]; exact HO.out, HBW.out⟩
    case true =>
      have a13 : wc5.cell? ⟨w.heap.size, 13, none⟩ = some (.bool m.has) := (HXA.out _ HBW.out).cell rfl
      obtain ⟨u13, o13⟩ : ∃ u, wc5.cell? ⟨W2.heap.size, 13, none⟩ = some u := ⟨_, HO.out.cell rfl⟩
      have f13 := HO.out.f 13
      obtain ⟨u10, o10⟩ : ∃ u, wc5.cell? ⟨W2.heap.size, 10, none⟩ = some u := ⟨_, HO.out.cell rfl⟩
      have f10 := HO.out.f 10
      obtain ⟨u11, o11⟩ : ∃ u, wc5.cell? ⟨W2.heap.size, 11, none⟩ = some u := ⟨_, HO.out.cell rfl⟩
      have f11 := HO.out.f 11
      obtain ⟨u12, o12⟩ : ∃ u, wc5.cell? ⟨W2.heap.size, 12, none⟩ = some u := ⟨_, HO.out.cell rfl⟩
      have f12 := HO.out.f 12
      cases hh : m.has
      case false =>
        have HH := hid hh
        rw [hh] at a13
        have a13b : (wc5.setCell ⟨W2.heap.size, 13, none⟩ (.bool false)).cell? ⟨w.heap.size, 13, none⟩ = some (.bool false) := (off_blk (by rw [HZ2.out]; omega)).trans a13
        clear hh
        go_wp2_with fail
        go_meet
        exact ⟨rfl, by rw [onlyL_7_f HR6.out HH.out, HH.out]; exact (HO.out).set (j := 13) (by simp only [List.length_set, ML_len]; decide) _, below_set (HBW.out) (Nat.le_refl _)⟩
      case true =>
        have HH := hid hh
        rw [hh] at a13
        clear hh
        obtain ⟨wn, hwn⟩ : ∃ wn, wc5.setCell ⟨W2.heap.size, 13, none⟩ (.bool true) = wn := ⟨_, rfl⟩
        have hon : OutL wn W2.heap.size ((ML (selA A m 6) (onlyK m 6)).set 13 (.bool m.has)) := by rw [← hwn, HH.out]; exact (HO.out).set (j := 13) (by simp only [List.length_set, ML_len]; decide) _
        have hbn : Below W2.heap.size W3 wn := by rw [← hwn]; exact below_set (HBW.out) (Nat.le_refl _)
        have HXN : Hid (∀ W, Below W2.heap.size wn W → MsgBox W w.heap.size A m) := hid fun W h => HXA.out W (hbn.trans h)
        have a13n : wn.cell? ⟨w.heap.size, 13, none⟩ = some (.bool true) := by rw [← HH.out]; exact (HXN.out wn (Below.refl _ _)).cell rfl
        go_wp2_with fail
        have HON := hid hon
        have HS : Hid (∀ W, Below W2.heap.size wn W → W.rangeAt w.heap.size 14 (cmdV A m.c).toList ∧ W.cell? ⟨w.heap.size, 10, none⟩ = some (.int .u32 m.a.1) ∧ W.cell? ⟨w.heap.size, 11, none⟩ = some (.int .u16 m.a.2.1) ∧ W.cell? ⟨w.heap.size, 12, none⟩ = some (.int .u32 m.a.2.2)) := hid fun W h => ⟨(HXN.out W h).cmd, (HXN.out W h).cell rfl, (HXN.out W h).cell rfl, (HXN.out W h).cell rfl⟩
        have H0 : Below W2.heap.size wn wn.drew := (Below.refl _ _).drew
        have hod := hon.ext (Below.refl (W2.heap.size + 1) wn).drew (Nat.lt_succ_self _)
        obtain ⟨v10, o10⟩ : ∃ u, wn.cell? ⟨W2.heap.size, 10, none⟩ = some u := ⟨_, hon.cell rfl⟩
        obtain ⟨v11, o11⟩ : ∃ u, wn.cell? ⟨W2.heap.size, 11, none⟩ = some u := ⟨_, hon.cell rfl⟩
        obtain ⟨v12, o12⟩ : ∃ u, wn.cell? ⟨W2.heap.size, 12, none⟩ = some u := ⟨_, hon.cell rfl⟩
        have f10 := hon.f 10
        have f11 := hon.f 11
        have f12 := hon.f 12
        refine wp_region_held_drew (S := fun W => W.rangeAt w.heap.size 14 (cmdV A m.c).toList ∧ W.cell? ⟨w.heap.size, 10, none⟩ = some (.int .u32 m.a.1) ∧ W.cell? ⟨w.heap.size, 11, none⟩ = some (.int .u16 m.a.2.1) ∧ W.cell? ⟨w.heap.size, 12, none⟩ = some (.int .u32 m.a.2.2)) (by kernel_rfl) (HS.out _ H0) (fun hHeld => ?_)
        refine wpAnyH_take (i := 0) (oi := _) (v := .pointer (some ⟨w.heap.size, 10, none⟩)) rfl (by kernel_rfl) (by kernel_rfl) (by kernel_rfl) (fun _ _ _ h => h) (Or.inl ⟨by rfl, ?_⟩) (by assumption) ?_
        · intro W hSw
          try dsimp only at hSw
          go_simp
        try simp only [Act.put, List.getElem_toArray, List.getElem_cons_succ, List.getElem_cons_zero, List.setIfInBounds_toArray, List.set_cons_zero, List.set_cons_succ]
        refine wpAnyH_take (i := 1) (oi := _) (v := .agg #[.int .u32 m.a.1, .int .u16 m.a.2.1, .int .u32 m.a.2.2]) rfl (by kernel_rfl) (by kernel_rfl) (by kernel_rfl) (fun _ _ _ h => h) (Or.inl ⟨by rfl, ?_⟩) (by assumption) ?_
        · intro W hSw
          try dsimp only at hSw
          go_simp
        try simp only [Act.put, List.getElem_toArray, List.getElem_cons_succ, List.getElem_cons_zero, List.setIfInBounds_toArray, List.set_cons_zero, List.set_cons_succ]
        refine wpAnyH_take (i := 2) (oi := _) (v := .pointer (some ⟨w.heap.size, 14, none⟩)) rfl (by kernel_rfl) (by kernel_rfl) (by kernel_rfl) (fun _ _ _ h => h) (Or.inl ⟨by rfl, ?_⟩) (by assumption) ?_
        · intro W hSw
          try dsimp only at hSw
          go_simp
        try simp only [Act.put, List.getElem_toArray, List.getElem_cons_succ, List.getElem_cons_zero, List.setIfInBounds_toArray, List.set_cons_zero, List.set_cons_succ]
        refine wpAnyH_take (i := 3) (oi := _) (v := .agg (cmdV A m.c)) rfl (by kernel_rfl) (by kernel_rfl) (by kernel_rfl) (fun _ _ _ h => h) (yieldsIf_load_mid (by rfl) 44 _ rfl w.heap.size 14 rfl (cmdV A m.c).toList _ (fun W h => h.1) Try.underlying44 rfl infoC) (by assumption) ?_
        try simp only [Act.put, List.getElem_toArray, List.getElem_cons_succ, List.getElem_cons_zero, List.setIfInBounds_toArray, List.set_cons_zero, List.set_cons_succ]
        refine wpAnyH_take (i := 4) (oi := _) (v := .pointer (some ⟨W2.heap.size, 10, none⟩)) rfl (by kernel_rfl) (by kernel_rfl) (by kernel_rfl) (fun _ _ _ h => h) (Or.inl ⟨by rfl, ?_⟩) (by assumption) ?_
        · intro W hSw
          try dsimp only at hSw
          go_simp
        try simp only [Act.put, List.getElem_toArray, List.getElem_cons_succ, List.getElem_cons_zero, List.setIfInBounds_toArray, List.set_cons_zero, List.set_cons_succ]
        refine wpAnyH_ready (rs := [5]) (by kernel_rfl) (by simp) ?_
        refine AllReadyH.cons (o := _) rfl (fun K hK => ?_) AllReadyH.nil
        go_simp
        refine hK.out _ _ (HS.out _ (below_set (below_set (below_set H0 (Nat.le_refl _)) (Nat.le_refl _)) (Nat.le_refl _))) (fun hHeld => ?_)
        clear hK K
        try simp only [Act.put, List.getElem_toArray, List.getElem_cons_succ, List.getElem_cons_zero, List.setIfInBounds_toArray, List.set_cons_zero, List.set_cons_succ]
        refine wpAnyH_take (i := 6) (oi := _) (v := .pointer (some ⟨W2.heap.size, 14, none⟩)) rfl (by kernel_rfl) (by kernel_rfl) (by kernel_rfl) (fun _ _ _ h => h) (Or.inl ⟨by rfl, ?_⟩) (by assumption) ?_
        · intro W hSw
          try dsimp only at hSw
          go_simp
        try simp only [Act.put, List.getElem_toArray, List.getElem_cons_succ, List.getElem_cons_zero, List.setIfInBounds_toArray, List.set_cons_zero, List.set_cons_succ]
        have ho3 := ((hod.set (j := 10) (by simp only [List.length_set, ML_len]; decide) (.int .u32 m.a.1)).set (j := 11) (by simp only [List.length_set, ML_len]; decide) (.int .u16 m.a.2.1)).set (j := 12) (by simp only [List.length_set, ML_len]; decide) (.int .u32 m.a.2.2)
        have ht := ho3.there (o := 14) (n := 10) (by simp only [List.length_set, ML_len]; decide)
        refine wpAnyH_ready (rs := [7]) (by kernel_rfl) (by simp) ?_
        refine AllReadyH.cons (o := _) rfl (fun K hK => ?_) AllReadyH.nil
        refine (show _ from ?_)
        rw [if_pos (by rfl)]
        refine wp_store_mid 44 _ _ rfl W2.heap.size 14 (cmdV A m.c) rfl rfl ht infoC (cmdV_one A m.c) ?_
        refine hK.out _ _ (HS.out _ (below_setCells _ _ (below_set (below_set (below_set H0 (Nat.le_refl _)) (Nat.le_refl _)) (Nat.le_refl _)) (Nat.le_refl _))) (fun hHeld => ?_)
        clear hK K
        try simp only [Act.put, List.getElem_toArray, List.getElem_cons_succ, List.getElem_cons_zero, List.setIfInBounds_toArray, List.set_cons_zero, List.set_cons_succ]
        refine wpAnyH_done (by kernel_rfl) ?_ _
        go_wp2_with fail
        go_meet
        exact ⟨rfl, by rw [onlyL_7_t HR6.out HH.out]; exact ho3.sets (by simp only [List.length_set, ML_len]; simp [cmdV, cmdL]), hbn.trans (below_setCells _ _ (below_set (below_set (below_set H0 (Nat.le_refl _)) (Nat.le_refl _)) (Nat.le_refl _)) (Nat.le_refl _))⟩
  case rest =>
  obtain ⟨rfl, ho6, hbw6⟩ := hcut
  rename World => wc6
  clear HO HBW
  have HO := hid ho6
  have HBW := hid hbw6
  clear ho6 hbw6
  go_upto_if 55 with (first
    | (go_at_call 92; (with_reducible refine (mhas7 HF HR7).mono ?_); rintro e wz ⟨rfl, rfl⟩))
  go_cut [4] (fun s wx => s = .pointer (some ⟨W2.heap.size, 0, none⟩) ∧ OutL wx W2.heap.size (ML (selA A m 8) (onlyK m 8)) ∧ Below W2.heap.size W3 wx)
  case first =>
    cases r7
    case false =>
      go_wp2_with fail
      go_meet
      exact ⟨rfl, by rw [onlyL_8_no HR7.out]; exact HO.out, HBW.out⟩
    case true =>
      have xm := HXA.out _ HBW.out
      have ht : wc6.there W2.heap.size 14 10 := HO.out.there (by rw [ML_len]; decide)
      go_wp2_with (first | (refine wpList_loadMC xm rfl rfl rfl ?_) | (refine wpList_storeMC (A := A) (c := m.c) ht rfl rfl rfl rfl ?_))
      go_meet
      exact ⟨rfl, by rw [onlyL_8_yes HR7.out]; exact HO.out.sets (by rw [ML_len]; simp [cmdV, cmdL]), below_setCells _ _ HBW.out (Nat.le_refl _)⟩
  case rest =>
  obtain ⟨rfl, ho7, hbw7⟩ := hcut
  rename World => wc7
  clear HO HBW
  have HO := hid ho7
  have HBW := hid hbw7
  clear ho7 hbw7
  go_upto_if 60 with (first
    | (go_at_call 92; (with_reducible refine (mhas8 HF HR8).mono ?_); rintro e wz ⟨rfl, rfl⟩))
  go_cut [4] (fun s wx => s = .pointer (some ⟨W2.heap.size, 0, none⟩) ∧ OutL wx W2.heap.size (ML (selA A m 9) (onlyK m 9)) ∧ Below W2.heap.size W3 wx)
  case first =>
    cases r8
    case false =>
      go_wp2_with fail
      go_meet
      exact ⟨rfl, by rw [onlyL_9_no HR8.out]; exact HO.out, HBW.out⟩
    case true =>
      have a24 : wc7.cell? ⟨w.heap.size, 24, none⟩ = some (.int .u64 m.v.id) := (HXA.out _ HBW.out).cell rfl
      have a25 : wc7.cell? ⟨w.heap.size, 25, none⟩ = some (.slice A.vm m.v.ms.length A.em) := (HXA.out _ HBW.out).cell rfl
      have a26 : wc7.cell? ⟨w.heap.size, 26, none⟩ = some (.slice A.vl m.v.ls.length A.el) := (HXA.out _ HBW.out).cell rfl
      have a27 : wc7.cell? ⟨w.heap.size, 27, none⟩ = some (.slice A.vd m.v.ds.length A.ed) := (HXA.out _ HBW.out).cell rfl
      obtain ⟨u24, o24⟩ : ∃ u, wc7.cell? ⟨W2.heap.size, 24, none⟩ = some u := ⟨_, HO.out.cell rfl⟩
      have f24 := HO.out.f 24
      obtain ⟨u25, o25⟩ : ∃ u, wc7.cell? ⟨W2.heap.size, 25, none⟩ = some u := ⟨_, HO.out.cell rfl⟩
      have f25 := HO.out.f 25
      obtain ⟨u26, o26⟩ : ∃ u, wc7.cell? ⟨W2.heap.size, 26, none⟩ = some u := ⟨_, HO.out.cell rfl⟩
      have f26 := HO.out.f 26
      obtain ⟨u27, o27⟩ : ∃ u, wc7.cell? ⟨W2.heap.size, 27, none⟩ = some u := ⟨_, HO.out.cell rfl⟩
      have f27 := HO.out.f 27
      go_wp2_with fail
      go_meet
      exact ⟨rfl, by rw [onlyL_9_yes HR8.out]; exact ((((HO.out).set (j := 24) (by simp only [List.length_set, ML_len]; decide) _).set (j := 25) (by simp only [List.length_set, ML_len]; decide) _).set (j := 26) (by simp only [List.length_set, ML_len]; decide) _).set (j := 27) (by simp only [List.length_set, ML_len]; decide) _, below_set (below_set (below_set (below_set (HBW.out) (Nat.le_refl _)) (Nat.le_refl _)) (Nat.le_refl _)) (Nat.le_refl _)⟩
  case rest =>
  obtain ⟨rfl, ho8, hbw8⟩ := hcut
  rename World => wc8
  clear HO HBW
  have HO := hid ho8
  have HBW := hid hbw8
  clear ho8 hbw8
  go_upto_if 65 with (first
    | (go_at_call 92; (with_reducible refine (mhas9 HF HR9).mono ?_); rintro e wz ⟨rfl, rfl⟩))
  go_cut [4] (fun s wx => s = .pointer (some ⟨W2.heap.size, 0, none⟩) ∧ OutL wx W2.heap.size (ML (selA A m 10) (onlyK m 10)) ∧ Below W2.heap.size W3 wx)
  case first =>
    cases r9
    case false =>
      go_wp2_with fail
      go_meet
      exact ⟨rfl, by rw [onlyL_10_no HR9.out]; exact HO.out, HBW.out⟩
    case true =>
      have a28 : wc8.cell? ⟨w.heap.size, 28, none⟩ = some (.slice A.ya m.y.length A.yc) := (HXA.out _ HBW.out).cell rfl
      obtain ⟨u28, o28⟩ : ∃ u, wc8.cell? ⟨W2.heap.size, 28, none⟩ = some u := ⟨_, HO.out.cell rfl⟩
      have f28 := HO.out.f 28
      go_wp2_with fail
      go_meet
      exact ⟨rfl, by rw [onlyL_10_yes HR9.out]; exact (HO.out).set (j := 28) (by simp only [List.length_set, ML_len]; decide) _, below_set (HBW.out) (Nat.le_refl _)⟩
  case rest =>
  obtain ⟨rfl, ho9, hbw9⟩ := hcut
  rename World => wc9
  clear HO HBW
  have HO := hid ho9
  have HBW := hid hbw9
  clear ho9 hbw9
  have hot : OutL wc9 W2.heap.size (ML (selA A m 10) (onlyM m)) := by have := HO.out; rw [onlyK_10] at this; exact this
  have hom : MsgBox wc9 W2.heap.size (selA A m 10) (onlyM m) := hot.r
  have hrt : wc9.there (w.heap.size + 1) 0 29 := (HXR.out _ HBW.out).there (by simp)
  go_wp2_with (first | (refine wpList_loadM hom rfl rfl rfl ?_) | (refine wpList_storeM (A := selA A m 10) (m := onlyM m) hrt rfl rfl rfl rfl ?_))
  refine bodyPost_ret (v := .agg (ML (selA A m 10) (onlyM m)).toArray) (results_cell_mid (p := 2) (ty := 46) rfl _ _ (w.heap.size + 1) 0 (ML (selA A m 10) (onlyM m)) _ rfl (World.rangeAt_setCells_same _ _ _ _ hrt) Try.underlying46 rfl (infoML _ _)) rfl ⟨rfl, below_setCells _ _ (HB2.out.trans (HBW.out.mono (by rw [HZ2.out]; omega))) (Nat.le_succ _)⟩
theorem MsgR.only {w : World} {A : MA} {m : MsgD} (h : MsgR w A m) : MsgR w (selA A m 10) (onlyM m) := by
  rw [← onlyK_10]
  unfold onlyK selA
  refine ⟨?_, ?_, ?_, ?_, ?_⟩
  · simp only
    cases inC m 10
    · exact ⟨.inl rfl, Nat.zero_le _, (fun b hb => by simp [zeroC] at hb), viewR_zero w⟩
    · exact h.c
  · simp only
    cases inV m 10
    · exact viewR_zero w
    · exact h.v
  · simp only
    cases inY m 10
    · exact .inl rfl
    · exact h.yr
  · simp only
    cases inY m 10
    · intro b hb; simp at hb
    · exact h.yb
  · simp only
    cases inY m 10
    · exact Nat.zero_le _
    · exact h.yl
end Go.Proofs.Ytbpfhclcjedkcaa


