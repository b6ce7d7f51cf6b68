/- Parts of the proof: X40 X46 X49 X60 X61 X62. -/
import Derived.Deep.MidRow
import Derived.Lib.EndianBits
import Derived.Test.YtppapeoainafbaaGreatDoorX45
namespace Go.Proofs.YtppapeoainafbaaGreatDoor
open Go.RowKit

/-! ### CmdBack -/
/-- a row of bytes of the call's own, whatever it holds -/
def OwnI (w : World) (base : Nat) (v : Value) (n : Nat) : Prop := ∃ cs : List Value, w.ownsRow base 5 1 v n cs ∧ ∀ c ∈ cs, ∃ z : Int, c = .int .u8 z
theorem OwnI.at {w : World} {base n : Nat} {v : Value} (h : OwnI w base v n) {k : Nat} (hk : k < n) : ∃ g c z, v = .slice (some ⟨g, 0, none⟩) n c ∧ base ≤ g ∧ g < w.heap.size ∧ w.cell? ⟨g, k, none⟩ = some (.int .u8 z) ∧ w.frozen? ⟨g, k, none⟩ = false ∧ ∀ x : Int, OwnI (w.setCell ⟨g, k, none⟩ (.int .u8 x)) base v n := by
  obtain ⟨cs, ho, hc⟩ := h
  have hl := ho.1
  rcases ho.2 with ⟨rfl, hn⟩ | ⟨g, cap, cur, rfl, hb, hg, -⟩
  · omega
  · have hkl : k < cs.length := by omega
    obtain ⟨z, hz⟩ := hc cs[k] (List.getElem_mem _)
    refine ⟨g, cap, z, rfl, hb, (Array.getElem?_eq_some_iff.1 hg).1, ?_, World.ownsRow.frozenAt ho k, fun x => ?_⟩
    · rw [World.ownsRow.cellAt ho k (by omega), List.getElem?_eq_getElem hkl, hz]
    · refine ⟨cs.set k (.int .u8 x), (World.ownsRow.stored ho k (.int .u8 x)).1, fun c hcc => ?_⟩
      rcases List.mem_or_eq_of_mem_set hcc with h1 | h1
      · exact hc c h1
      · exact ⟨x, h1⟩
theorem OwnI.ext {w w' : World} {base n : Nat} {v : Value} (h : OwnI w base v n) (hb : Below w.heap.size w w') : OwnI w' base v n := by
  obtain ⟨cs, ho, hc⟩ := h
  refine ⟨cs, ⟨ho.1, ?_⟩, hc⟩
  rcases ho.2 with hn | ⟨g, cap, cur, rfl, hbb, hgg, rest⟩
  · exact .inl hn
  · exact .inr ⟨g, cap, cur, rfl, hbb, (hb.block g (Array.getElem?_eq_some_iff.1 hgg).1).trans hgg, rest⟩
theorem OwnI.row {w : World} {base n : Nat} {v : Value} (h : OwnI w base v n) : ∃ a c, v = .slice a n c := by
  obtain ⟨cs, ho, hc⟩ := h
  rcases ho.2 with ⟨rfl, hn⟩ | ⟨g, cap, cur, rfl, -⟩
  · exact ⟨none, 0, by rw [hn]⟩
  · exact ⟨_, _, rfl⟩

end Go.Proofs.YtppapeoainafbaaGreatDoor

namespace Go.Proofs.YtppapeoainafbaaGreatDoor
open Go.RowKit

/-! ### the reference's Get of a command -/
theorem cmdCheckR_is {A : CmdD} {da am al ad : Option Addr} {dc cm cl cd : Nat} {w : World} {r : Int} (h : Hid ((cmdChk A : Int) = r)) (hV : ViewR w am al ad A.v) (hsum : lens A.v.ls ≤ 549755813888) (hfr : okP A.fr) :
   Calls Tryz.prog 78 #[.agg (cmdL da am al ad dc cm cl cd A)] w fun e w' => e = .returned (.int .i64 r) ∧ Below w.heap.size w w' := by
  have := cmdCheckR_any (da := da) (dc := dc) (cm := cm) (cl := cl) (cd := cd) hV hsum hfr
  rw [h.out] at this; exact this

end Go.Proofs.YtppapeoainafbaaGreatDoor

namespace Go.Proofs.YtppapeoainafbaaGreatDoor
open Go.RowKit

/-! ### CmdForms -/
theorem Wrote.of_below {w w' : World} {s : Nat} {v : Value} {bs : List Nat} (hW : WrIs w s v bs) (hown : OwnB w w.heap.size v bs) (hb : Below w.heap.size w w') : Wrote w w' s v bs := ⟨hW.ext hb, hown.ext hb, Mut.of_below hb⟩
theorem RdIs.made (w : World) (t : TypeId) {a : Option Addr} {c n : Nat} {bs : List Nat} (hn : bs.length = n) (hrow : ByteRow w a bs) (hc : bs.length ≤ c) (hby : ∀ b ∈ bs, b < 256) (hlen : bs.length ≤ 70368744177664) : RdIs (w.alloc (.cells #[.slice a n c, .int .i64 0] t)) w.heap.size a c ⟨bs, 0⟩ := by
  subst hn
  refine ⟨by simp, by simp, by simp, by simp, hrow.alloc _, fun b off e hne => ?_, hc, hby, hlen⟩
  rcases hrow with h | ⟨b', o', e', h, _⟩
  · exact absurd h hne
  · rw [e] at e'; cases e'; exact h

theorem RdIs.mutN {G : Nat → Prop} {w w' : World} {s c : Nat} {a : Option Addr} {S : RS} (h : RdIs w s a c S) (hm : Mut G w w') (hs : ¬ G s) (hne : ∀ b off, a = some ⟨b, off, none⟩ → S.b ≠ [] → ¬ G b) : RdIs w' s a c S :=
  ⟨cell_mut h.c0 hm hs, cell_mut h.c1 hm hs, (World.frozen?_of_block (w := w) (a := ⟨s, 0, none⟩) (hm.block s h.lt hs)).trans h.f0, (World.frozen?_of_block (w := w) (a := ⟨s, 1, none⟩) (hm.block s h.lt hs)).trans h.f1, h.row.mutT hm hne, h.far, h.cap, h.byt, h.len⟩
theorem WrIs.mutN {G : Nat → Prop} {w w' : World} {s : Nat} {v : Value} {bs : List Nat} (h : WrIs w s v bs) (hm : Mut G w w') (hG : ¬ G s) (hown : OwnB w' (s + 1) v bs) : WrIs w' s v bs :=
  ⟨cell_mut h.c hm hG, (World.frozen?_of_block (w := w) (a := ⟨s, 0, none⟩) (hm.block s h.lt hG)).trans h.f, hown⟩
theorem OwnB.mutN {G : Nat → Prop} {w w' : World} {base : Nat} {v : Value} {xs : List Nat} (h : OwnB w base v xs) (hm : Mut G w w') (hG : ∀ g, v.ownBlock = some g → ¬ G g) : OwnB w' base v xs := by
  refine ⟨h.1, ?_⟩
  rcases h.2 with hn | ⟨g, cap, cur, rfl, hbb, hgg, rest⟩
  · exact .inl hn
  · exact .inr ⟨g, cap, cur, rfl, hbb, (hm.block g (Array.getElem?_eq_some_iff.1 hgg).1 (hG g rfl)).trans hgg, rest⟩
end Go.Proofs.YtppapeoainafbaaGreatDoor

namespace Go.Proofs.YtppapeoainafbaaGreatDoor
open Go.RowKit
/-! ### messages in plain words -/
abbrev Bal := Nat × Pid
structure MsgD where
  kind : Int
  who : Pid
  vw : Nat
  sl : Nat
  num : Nat
  hops : Int
  b : Bal
  a : Bal
  has : Bool
  c : CmdD
  v : View
  y : List Nat
def zeroBal : Bal := (0, (0, 0))
def zeroM : MsgD := ⟨0, (0, 0), 0, 0, 0, 0, zeroBal, zeroBal, false, zeroC, zeroV, []⟩
/-- a kind's fields, a bit each -/
def flN (k : Int) : Nat := if k = 1 then 563 else if k = 2 then 164 else if k = 3 then 4 else if k = 4 then 12 else if k = 5 then 76 else if k = 6 then 140 else if k = 7 then 12 else if k = 8 then 12 else if k = 9 then 34 else if k = 10 then 51 else if k = 11 then 33 else if k = 12 then 772 else if k = 13 then 33 else if k = 14 then 2 else 0
/-- a kind's fields in their order: w v s b n h p c V y -/
def ltrs (k : Int) : List Nat := if k = 1 then [0, 1, 4, 5, 9] else if k = 2 then [2, 5, 7] else if k = 3 then [2] else if k = 4 then [2, 3] else if k = 5 then [2, 3, 6] else if k = 6 then [2, 3, 7] else if k = 7 then [2, 3] else if k = 8 then [2, 3] else if k = 9 then [1, 5] else if k = 10 then [0, 1, 4, 5] else if k = 11 then [0, 5] else if k = 12 then [2, 8, 9] else if k = 13 then [0, 5] else if k = 14 then [1] else []
def hbF (f i : Nat) : Bool := decide (f &&& 2 ^ i ≠ 0)
/-- has a kind a field? -/
def hb (k : Int) (i : Nat) : Bool := hbF (flN k) i
theorem kinds (k : Int) : k = 1 ∨ k = 2 ∨ k = 3 ∨ k = 4 ∨ k = 5 ∨ k = 6 ∨ k = 7 ∨ k = 8 ∨ k = 9 ∨ k = 10 ∨ k = 11 ∨ k = 12 ∨ k = 13 ∨ k = 14 ∨ (¬ (1 ≤ k ∧ k ≤ 14) ∧ flN k = 0 ∧ ltrs k = []) := by
  by_cases h : 1 ≤ k ∧ k ≤ 14
  · omega
  · have h2 : flN k = 0 ∧ ltrs k = [] := by
      unfold flN ltrs
      repeat rw [if_neg (by omega)]
      exact ⟨rfl, rfl⟩
    exact .inr (.inr (.inr (.inr (.inr (.inr (.inr (.inr (.inr (.inr (.inr (.inr (.inr (.inr ⟨h, h2.1, h2.2⟩)))))))))))))
theorem hb_ltrs (k : Int) {i : Nat} (hi : i < 10) : hb k i = (ltrs k).contains i := by
  have key : ∀ (f : Nat) (l : List Nat), (∀ i : Fin 10, hbF f i = l.contains i.val) → hbF f i = l.contains i := fun f l h => h ⟨i, hi⟩
  rcases kinds k with rfl | rfl | rfl | rfl | rfl | rfl | rfl | rfl | rfl | rfl | rfl | rfl | rfl | rfl | ⟨-, h1, h2⟩
  · exact key 563 [0, 1, 4, 5, 9] (by decide)
  · exact key 164 [2, 5, 7] (by decide)
  · exact key 4 [2] (by decide)
  · exact key 12 [2, 3] (by decide)
  · exact key 76 [2, 3, 6] (by decide)
  · exact key 140 [2, 3, 7] (by decide)
  · exact key 12 [2, 3] (by decide)
  · exact key 12 [2, 3] (by decide)
  · exact key 34 [1, 5] (by decide)
  · exact key 51 [0, 1, 4, 5] (by decide)
  · exact key 33 [0, 5] (by decide)
  · exact key 772 [2, 8, 9] (by decide)
  · exact key 33 [0, 5] (by decide)
  · exact key 2 [1] (by decide)
  · unfold hb; rw [h1, h2]; exact key 0 [] (by decide)
theorem flN_lt (k : Int) : flN k < 1024 := by
  rcases kinds k with rfl | rfl | rfl | rfl | rfl | rfl | rfl | rfl | rfl | rfl | rfl | rfl | rfl | rfl | ⟨-, h1, h2⟩ <;> first | (rw [h1]; decide) | decide
/-- a message with just the fields of its kind -/
def onlyM (m : MsgD) : MsgD :=
  { kind := m.kind
    who := if hb m.kind 0 then m.who else (0, 0)
    vw := if hb m.kind 1 then m.vw else 0
    sl := if hb m.kind 2 then m.sl else 0
    b := if hb m.kind 3 then m.b else zeroBal
    num := if hb m.kind 4 then m.num else 0
    hops := if hb m.kind 5 then m.hops else 0
    has := if hb m.kind 6 then m.has else false
    a := if hb m.kind 6 && m.has then m.a else zeroBal
    c := if (hb m.kind 6 && m.has) || hb m.kind 7 then m.c else zeroC
    v := if hb m.kind 8 then m.v else zeroV
    y := if hb m.kind 9 then m.y else [] }
def sameM (a b : MsgD) : Bool :=
  decide (a.kind = b.kind) && (decide (a.who = b.who) && (decide (a.vw = b.vw) && (decide (a.sl = b.sl) && (decide (a.num = b.num) && (decide (a.hops = b.hops) && (decide (a.b = b.b) && (decide (a.a = b.a) && (decide (a.has = b.has) && (sameC a.c b.c && (sameB a.v b.v && decide (a.y = b.y)))))))))))
/-- P10.1 -/
def msgChk (m : MsgD) : Bool :=
  decide (flN m.kind ≠ 0) && (sameM m (onlyM m) && (decide (m.vw ≤ 4611686018427387904 ∧ m.sl ≤ 4611686018427387904 ∧ m.num ≤ 4611686018427387904) && (decide (0 ≤ m.hops ∧ m.hops ≤ 4) && (decide (m.y.length ≤ 200) &&
  ((!hb m.kind 0 || mayP m.who) && ((!hb m.kind 3 || mayP m.b.2) && ((!m.has || (mayP m.a.2 && decide (cmdChk m.c = 0))) && ((!hb m.kind 7 || decide (cmdChk m.c = 0)) && (!hb m.kind 8 || refCheckB m.v)))))))))
def balF (b : Bal) : List Nat := short b.1 ++ pidF b.2
def letF (m : MsgD) (i : Nat) : List Nat :=
  if i = 0 then pidF m.who else if i = 1 then short m.vw else if i = 2 then short m.sl else if i = 3 then balF m.b else if i = 4 then short m.num else if i = 5 then short m.hops.toNat
  else if i = 6 then (if m.has then short 1 ++ (balF m.a ++ cmdF m.c) else short 0)
  else if i = 7 then cmdF m.c else if i = 8 then viewF m.v else short m.y.length ++ m.y
def msgF (m : MsgD) : List Nat := short m.kind.toNat ++ (ltrs m.kind).flatMap (letF m)
/-! ### the readers -/
/-- data that stand in a message's cells -/
structure MsgWf (m : MsgD) : Prop where
  who : okP m.who
  b : m.b.1 < 4294967296 ∧ okP m.b.2
  a : m.a.1 < 4294967296 ∧ okP m.a.2
  c : CmdWf m.c
  v : ∀ p ∈ m.v.ms, okP p
/-! ### what was laid is read as it was -/
theorem sameB_eq {a b : View} (h : sameB a b = true) : a = b := by
  obtain ⟨a1, a2, a3, a4⟩ := a
  obtain ⟨b1, b2, b3, b4⟩ := b
  unfold sameB at h
  simp only [Bool.and_eq_true, decide_eq_true_eq] at h
  obtain ⟨h1, h2, h3, h4⟩ := h
  subst h1 h2 h3 h4; rfl
theorem sameC_eq {a b : CmdD} (h : sameC a b = true) : a = b := by
  obtain ⟨a1, a2, a3, a4, a5, a6⟩ := a
  obtain ⟨b1, b2, b3, b4, b5, b6⟩ := b
  unfold sameC at h
  simp only [Bool.and_eq_true, decide_eq_true_eq] at h
  obtain ⟨h1, h2, h3, h4, h5, h6⟩ := h
  have h6 := sameB_eq h6
  subst h1 h2 h3 h4 h5 h6; rfl
theorem sameM_eq {a b : MsgD} (h : sameM a b = true) : a = b := by
  obtain ⟨a1, a2, a3, a4, a5, a6, a7, a8, a9, a10, a11, a12⟩ := a
  obtain ⟨b1, b2, b3, b4, b5, b6, b7, b8, b9, b10, b11, b12⟩ := b
  unfold sameM at h
  simp only [Bool.and_eq_true, decide_eq_true_eq] at h
  obtain ⟨h1, h2, h3, h4, h5, h6, h7, h8, h9, h10, h11, h12⟩ := h
  have h10 := sameC_eq h10
  have h11 := sameB_eq h11
  subst h1 h2 h3 h4 h5 h6 h7 h8 h9 h10 h11 h12; rfl
theorem sameM_self (a : MsgD) : sameM a a = true := by
  unfold sameM; simp [sameC_self, sameB_refl]
structure MsgOk (m : MsgD) : Prop where
  f : flN m.kind ≠ 0
  only : m = onlyM m
  nums : m.vw ≤ 4611686018427387904 ∧ m.sl ≤ 4611686018427387904 ∧ m.num ≤ 4611686018427387904
  hops : 0 ≤ m.hops ∧ m.hops ≤ 4
  len : m.y.length ≤ 200
  who : hb m.kind 0 = true → mayP m.who = true
  b : hb m.kind 3 = true → mayP m.b.2 = true
  a : m.has = true → mayP m.a.2 = true ∧ cmdChk m.c = 0
  c : hb m.kind 7 = true → cmdChk m.c = 0
  v : hb m.kind 8 = true → refCheckB m.v = true
theorem msgChk_ok {m : MsgD} (h : msgChk m = true) : MsgOk m := by
  unfold msgChk at h
  simp only [Bool.and_eq_true, Bool.or_eq_true, Bool.not_eq_true', decide_eq_true_eq] at h
  obtain ⟨h1, h2, h3, h4, h5, h6, h7, h8, h9, h10⟩ := h
  exact ⟨h1, sameM_eq h2, h3, h4, h5, fun e => by simpa [e] using h6, fun e => by simpa [e] using h7, fun e => by simpa [e] using h8, fun e => by simpa [e] using h9, fun e => by simpa [e] using h10⟩
theorem MsgOk.inj {m : MsgD} (h : MsgOk m) : m.who = (if hb m.kind 0 then m.who else (0, 0)) ∧ m.vw = (if hb m.kind 1 then m.vw else 0) ∧ m.sl = (if hb m.kind 2 then m.sl else 0) ∧ m.b = (if hb m.kind 3 then m.b else zeroBal) ∧ m.num = (if hb m.kind 4 then m.num else 0) ∧ m.hops = (if hb m.kind 5 then m.hops else 0) ∧ m.has = (if hb m.kind 6 then m.has else false) ∧ m.a = (if hb m.kind 6 && m.has then m.a else zeroBal) ∧ m.c = (if (hb m.kind 6 && m.has) || hb m.kind 7 then m.c else zeroC) ∧ m.v = (if hb m.kind 8 then m.v else zeroV) ∧ m.y = (if hb m.kind 9 then m.y else []) :=
  ⟨congrArg MsgD.who h.only, congrArg MsgD.vw h.only, congrArg MsgD.sl h.only, congrArg MsgD.b h.only, congrArg MsgD.num h.only, congrArg MsgD.hops h.only, congrArg MsgD.has h.only, congrArg MsgD.a h.only, congrArg MsgD.c h.only, congrArg MsgD.v h.only, congrArg MsgD.y h.only⟩
end Go.Proofs.YtppapeoainafbaaGreatDoor

namespace Go.Proofs.YtppapeoainafbaaGreatDoor
open Go.RowKit
/-! ### messages in their boxes; fields, has -/
/-- where a message's rows lie -/
structure MA where
  da : Option Addr
  dc : Nat
  am : Option Addr
  cm : Nat
  al : Option Addr
  cl : Nat
  ad : Option Addr
  cd : Nat
  vm : Option Addr
  em : Nat
  vl : Option Addr
  el : Nat
  vd : Option Addr
  ed : Nat
  ya : Option Addr
  yc : Nat
def cmdV (A : MA) (c : CmdD) : Array Value := cmdL A.da A.am A.al A.ad A.dc A.cm A.cl A.cd c
def viewC (A : MA) (V : View) : Array Value := #[.int .u64 V.id, .slice A.vm V.ms.length A.em, .slice A.vl V.ls.length A.el, .slice A.vd V.ds.length A.ed]
def headL (m : MsgD) : List Value := [.int .i64 m.kind, .int .u16 m.who.1, .int .u32 m.who.2, .int .u64 m.vw, .int .u64 m.sl, .int .u64 m.num, .int .i64 m.hops, .int .u32 m.b.1, .int .u16 m.b.2.1, .int .u32 m.b.2.2, .int .u32 m.a.1, .int .u16 m.a.2.1, .int .u32 m.a.2.2, .bool m.has]
/-- a message's cells -/
def ML (A : MA) (m : MsgD) : List Value := headL m ++ ((cmdV A m.c).toList ++ ((viewC A m.v).toList ++ [.slice A.ya m.y.length A.yc]))
theorem ML_len (A : MA) (m : MsgD) : (ML A m).length = 29 := rfl
theorem infoM : (Tryz.prog.info? 37).map (·.size) = some 29 := by kernel_rfl
theorem infoML (A : MA) (m : MsgD) : (Tryz.prog.info? 37).map (·.size) = some (ML A m).length := infoM
theorem infoC : (Tryz.prog.info? 35).map (·.size) = some 10 := by kernel_rfl
def MsgBox (w : World) (b : Nat) (A : MA) (m : MsgD) : Prop := w.rangeAt b 0 (ML A m)
theorem MsgBox.cell {w : World} {b : Nat} {A : MA} {m : MsgD} (h : MsgBox w b A m) {j : Nat} {v : Value} (hv : (ML A m)[j]? = some v) : w.cell? ⟨b, j, none⟩ = some v := by
  have := h j v hv
  rwa [Nat.zero_add] at this
theorem MsgBox.lt {w : World} {b : Nat} {A : MA} {m : MsgD} (h : MsgBox w b A m) : b < w.heap.size := World.block_lt_of_cell? w _ (h.cell (j := 0) rfl)
theorem rangeAt_to {w w' : World} {b o B : Nat} {cs : List Value} (h : w.rangeAt b o cs) (hb : Below B w w') (hB : b < B) : w'.rangeAt b o cs := fun j v hv => (hb.cell (p := ⟨b, o + j, none⟩) (by exact hB)).trans (h j v hv)
theorem MsgBox.ext {w w' : World} {b B : Nat} {A : MA} {m : MsgD} (h : MsgBox w b A m) (hb : Below B w w') (hB : b < B) : MsgBox w' b A m := rangeAt_to h hb hB
theorem MsgBox.cmd {w : World} {b : Nat} {A : MA} {m : MsgD} (h : MsgBox w b A m) : w.rangeAt b 14 (cmdV A m.c).toList := fun j v hv => by
  have hj : j < 10 := (List.getElem?_eq_some_iff.1 hv).1
  refine h.cell (j := 14 + j) ?_
  unfold ML
  rw [List.getElem?_append_right (by show 14 ≤ 14 + j; omega), show 14 + j - (headL m).length = j from by show 14 + j - 14 = j; omega, List.getElem?_append_left (by show j < 10; exact hj)]
  exact hv
theorem MsgBox.view {w : World} {b : Nat} {A : MA} {m : MsgD} (h : MsgBox w b A m) : w.rangeAt b 24 (viewC A m.v).toList := fun j v hv => by
  have hj : j < 4 := (List.getElem?_eq_some_iff.1 hv).1
  refine h.cell (j := 24 + j) ?_
  unfold ML
  rw [List.getElem?_append_right (by show 14 ≤ 24 + j; omega), show 24 + j - (headL m).length = 10 + j from by show 24 + j - 14 = 10 + j; omega, List.getElem?_append_right (by show 10 ≤ 10 + j; omega), show 10 + j - ((cmdV A m.c).toList).length = j from by show 10 + j - 10 = j; omega, List.getElem?_append_left (by show j < 4; exact hj)]
  exact hv
theorem MsgBox.made (A : MA) (m : MsgD) (w : World) (t : TypeId) (fr : Nat × Nat) : MsgBox (w.alloc (.cells (ML A m).toArray t fr)) w.heap.size A m := fun j v hv => by
  rw [World.cell?_alloc_mark, Nat.zero_add]; simpa using hv
section
variable {ops : Array Oper} {rest : List Oper} {op : Oper} {a : Go.Act} {w : World} {Q : Exit → Go.Act → World → Prop} {x : Operand} {b : Nat} {A : MA} {m : MsgD}
/-- the whole message is read -/
theorem wpList_loadM (h : MsgBox w b A m) (hgd : op.guard = none) (ho : op.op = .load 37 x)
    (hx : a.eval x = .pointer (some ⟨b, 0, none⟩)) (hk : wpList Tryz.prog ops Q rest (a.put op.dst (.agg (ML A m).toArray)) w) : wpList Tryz.prog ops Q (op :: rest) a w :=
  wpList_load_mid hgd 37 x ho b 0 hx (ML A m) _ h Tryz.underlying37 rfl (infoML A m) hk
/-- its command -/
theorem wpList_loadMC (h : MsgBox w b A m) (hgd : op.guard = none) (ho : op.op = .load 35 x)
    (hx : a.eval x = .pointer (some ⟨b, 14, none⟩)) (hk : wpList Tryz.prog ops Q rest (a.put op.dst (.agg (cmdV A m.c))) w) : wpList Tryz.prog ops Q (op :: rest) a w :=
  wpList_load_mid hgd 35 x ho b 14 hx (cmdV A m.c).toList _ h.cmd Tryz.underlying35 rfl infoC hk
end
theorem fields_any (k : Int) (w : World) : Calls Tryz.prog 24 #[.int .i64 k] w fun e w' => e = .returned (.int .u64 (flN k)) ∧ w = w' := by
  rcases kinds k with rfl | rfl | rfl | rfl | rfl | rfl | rfl | rfl | rfl | rfl | rfl | rfl | rfl | rfl | ⟨h, h1, -⟩
  all_goals first
    | (go_enter Tryz.func24, Tryz.ntmps24
       go_wp2
       go_ret
       exact ⟨rfl, rfl⟩)
    | skip
  have t : ∀ j : Int, 1 ≤ j → j ≤ 14 → (k == j) = false := fun j h2 h3 => by simp only [beq_eq_false_iff_ne, ne_eq]; omega
  have t1 := t 1 (by decide) (by decide)
  have t2 := t 2 (by decide) (by decide)
  have t3 := t 3 (by decide) (by decide)
  have t4 := t 4 (by decide) (by decide)
  have t5 := t 5 (by decide) (by decide)
  have t6 := t 6 (by decide) (by decide)
  have t7 := t 7 (by decide) (by decide)
  have t8 := t 8 (by decide) (by decide)
  have t9 := t 9 (by decide) (by decide)
  have t10 := t 10 (by decide) (by decide)
  have t11 := t 11 (by decide) (by decide)
  have t12 := t 12 (by decide) (by decide)
  have t13 := t 13 (by decide) (by decide)
  have t14 := t 14 (by decide) (by decide)
  have H1 := hid h1
  clear t h h1
  go_enter Tryz.func24, Tryz.ntmps24
  go_wp2
  go_ret
  exact ⟨by rw [H1.out]; rfl, rfl⟩
theorem mhas_any (f i : Nat) (n : Nat) (hn : n = 2 ^ i) (hi : i < 10) (hf : f < 1024) (w : World) : Calls Tryz.prog 26 #[.int .u64 f, .int .u64 n] w fun e w' => e = .returned (.bool (hbF f i)) ∧ w = w' := by
  have hn2 : n < 2 ^ 64 := by rw [hn]; exact Nat.pow_lt_pow_right (by decide) (by omega)
  have e1 := (bits_nat .u64 64 (by decide) wraps_u64 f n (by omega) hn2).1
  have E : Hid (hbF f i = decide (f &&& n ≠ 0)) := hid (by rw [hn]; rfl)
  clear hn hn2 hf
  go_enter Tryz.func26, Tryz.ntmps26
  go_wp2
  go_ret
  exact ⟨by rw [E.out]; by_cases h : f &&& n = 0 <;> simp [h], rfl⟩
end Go.Proofs.YtppapeoainafbaaGreatDoor

namespace Go.Proofs.YtppapeoainafbaaGreatDoor
open Go.RowKit
/-! ### msg.Same and the reference's -/
structure MsgR (w : World) (A : MA) (m : MsgD) : Prop where
  c : CmdR w A.da A.am A.al A.ad m.c
  v : ViewR w A.vm A.vl A.vd m.v
  yr : ByteRow w A.ya m.y
  yb : ∀ b ∈ m.y, b < 256
  yl : m.y.length ≤ 70368744177664
theorem MsgR.ext {w w' : World} {A : MA} {m : MsgD} (h : MsgR w A m) (hb : Below w.heap.size w w') : MsgR w' A m := ⟨h.c.ext hb, h.v.ext hb, h.yr.ext hb, h.yb, h.yl⟩
section
variable {ops : Array Oper} {rest : List Oper} {op : Oper} {a : Go.Act} {w : World} {Q : Exit → Go.Act → World → Prop} {x : Operand} {b : Nat} {A : MA} {m : MsgD}
theorem wpList_loadMw (h : MsgBox w b A m) (hw : Region.wanted op (yielded ops a.tmps) = true) (ho : op.op = .load 37 x)
    (hx : a.eval x = .pointer (some ⟨b, 0, none⟩)) (hk : wpList Tryz.prog ops Q rest (a.put op.dst (.agg (ML A m).toArray)) w) : wpList Tryz.prog ops Q (op :: rest) a w :=
  wpList_step fun K hK => by rw [if_pos hw]; exact wp_load_mid 37 x ho b 0 hx (ML A m) _ h Tryz.underlying37 rfl (infoML A m) (hK _ _ hk)
theorem wpList_loadMCw (h : MsgBox w b A m) (hw : Region.wanted op (yielded ops a.tmps) = true) (ho : op.op = .load 35 x)
    (hx : a.eval x = .pointer (some ⟨b, 14, none⟩)) (hk : wpList Tryz.prog ops Q rest (a.put op.dst (.agg (cmdV A m.c))) w) : wpList Tryz.prog ops Q (op :: rest) a w :=
  wpList_step fun K hK => by rw [if_pos hw]; exact wp_load_mid 35 x ho b 14 hx (cmdV A m.c).toList _ h.cmd Tryz.underlying35 rfl infoC (hK _ _ hk)
end
theorem neq_bal (n a b m c d : Int) (w : World) : (binOp .neq 28 (.agg #[.int .u32 n, .int .u16 a, .int .u32 b]) (.agg #[.int .u32 m, .int .u16 c, .int .u32 d])).run Tryz.prog w = .ok (.bool (!decide ((n, a, b) = (m, c, d)))) w := by
  have hS : Tryz.prog.underlying 28 = some (.struct (Tryz.prog.fieldsOf 28)) := by kernel_rfl
  have hp : Tryz.prog.stoodInHeld 28 = false := by kernel_rfl
  rw [run_neq_struct, show (10000 : Nat) = 9999 + 1 from rfl, run_equalIn_agg w 9999 28 _ _ hS hp]
  simp only [Program.fieldsOf, Tryz.underlying28]
  go_simp
  by_cases h1 : n = m <;> by_cases h2 : a = c <;> by_cases h3 : b = d <;> simp [h1, h2, h3]
theorem eql_bal (n a b m c d : Int) (w : World) : (binOp .eql 28 (.agg #[.int .u32 n, .int .u16 a, .int .u32 b]) (.agg #[.int .u32 m, .int .u16 c, .int .u32 d])).run Tryz.prog w = .ok (.bool (decide ((n, a, b) = (m, c, d)))) w := by
  have hS : Tryz.prog.underlying 28 = some (.struct (Tryz.prog.fieldsOf 28)) := by kernel_rfl
  have hp : Tryz.prog.stoodInHeld 28 = false := by kernel_rfl
  rw [run_eql_struct, show (10000 : Nat) = 9999 + 1 from rfl, run_equalIn_agg w 9999 28 _ _ hS hp]
  simp only [Program.fieldsOf, Tryz.underlying28]
  go_simp
  by_cases h1 : n = m <;> by_cases h2 : a = c <;> by_cases h3 : b = d <;> simp [h1, h2, h3]
theorem bal_dec (x y : Bal) (r : Bool) (h : decide (x = y) = r) : decide (((x.1 : Int), x.2.1, x.2.2) = ((y.1 : Int), y.2.1, y.2.2)) = r := by
  obtain ⟨a, b, c⟩ := x
  obtain ⟨d, e, f⟩ := y
  rw [← h]
  by_cases h1 : a = d
  · subst h1; simp
  · have h2 : ¬ (a : Int) = (d : Int) := by omega
    simp [h1, h2]
theorem pid_dec (x y : Pid) (r : Bool) (h : decide (x = y) = r) : decide ((x.1, x.2) = (y.1, y.2)) = r := h
end Go.Proofs.YtppapeoainafbaaGreatDoor

