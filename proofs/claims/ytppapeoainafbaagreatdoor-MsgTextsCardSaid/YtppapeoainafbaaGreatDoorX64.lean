/- Parts of the proof: X64. -/
import Derived.Test.YtppapeoainafbaaGreatDoorGMsgTexts9
namespace Go.Proofs.YtppapeoainafbaaGreatDoor
open Go.RowKit
/-! ### a box as a list of cells, written cell by cell -/
structure OutL (w : World) (q : Nat) (L : List Value) : Prop where
  r : w.rangeAt q 0 L
  f : ∀ j, w.frozen? ⟨q, j, none⟩ = false
theorem OutL.cell {w : World} {q : Nat} {L : List Value} (h : OutL w q L) {j : Nat} {v : Value} (hv : L[j]? = some v) : w.cell? ⟨q, j, none⟩ = some v := by
  have := h.r j v hv
  rwa [Nat.zero_add] at this
theorem OutL.set {w : World} {q : Nat} {L : List Value} (h : OutL w q L) {j : Nat} (hj : j < L.length) (v : Value) : OutL (w.setCell ⟨q, j, none⟩ v) q (L.set j v) := by
  refine ⟨fun i u hu => ?_, fun i => by simp [h.f i]⟩
  rw [Nat.zero_add]
  by_cases e : i = j
  · subst e
    rw [List.getElem?_set_self hj] at hu
    cases hu
    exact World.cell?_setCell_same _ _ _ (h.cell (List.getElem?_eq_getElem hj))
  · rw [List.getElem?_set_ne (fun e2 => e e2.symm)] at hu
    rw [World.cell?_setCell_other _ _ _ _ (by intro e2; injection e2 with _ e3; exact e e3.symm)]
    exact h.cell hu
def setsL : List Value → Nat → List Value → List Value
  | L, _, [] => L
  | L, o, v :: vs => setsL (L.set o v) (o + 1) vs
theorem OutL.sets {q : Nat} : ∀ {vs : List Value} {w : World} {L : List Value} {o : Nat}, OutL w q L → o + vs.length ≤ L.length → OutL (w.setCells q o vs) q (setsL L o vs)
  | [], _, _, _, h, _ => h
  | v :: vs, w, L, o, h, hl => by
    simp only [List.length_cons] at hl
    exact OutL.sets (vs := vs) (h.set (j := o) (by omega) v) (by rw [List.length_set]; omega)
theorem OutL.there {w : World} {q : Nat} {L : List Value} (h : OutL w q L) {o n : Nat} (hl : o + n ≤ L.length) : w.there q o n := fun j hj => ⟨by rw [h.cell (List.getElem?_eq_getElem (show o + j < L.length by omega))]; rfl, h.f _⟩
theorem OutL.lt {w : World} {q : Nat} {L : List Value} (h : OutL w q L) (hl : 0 < L.length) : q < w.heap.size := World.block_lt_of_cell? w _ (h.cell (j := 0) (List.getElem?_eq_getElem hl))
theorem OutL.ext {w w' : World} {q B : Nat} {L : List Value} (h : OutL w q L) (hb : Below B w w') (hB : q < B) : OutL w' q L :=
  ⟨rangeAt_to h.r hb hB, fun j => (hb.frozen (p := ⟨q, j, none⟩) (by exact hB)).trans (h.f j)⟩
theorem OutL.made (L : List Value) (w : World) (t : TypeId) : OutL (w.alloc (.cells L.toArray t)) w.heap.size L :=
  ⟨fun j v hv => by rw [World.cell?_alloc_mark, Nat.zero_add]; simpa using hv, fun j => by simp⟩
theorem below_setCells {B b : Nat} : ∀ (vs : List Value) (o : Nat) {w0 w : World}, Below B w0 w → B ≤ b → Below B w0 (w.setCells b o vs)
  | [], _, _, _, h, _ => h
  | v :: vs, o, _, _, h, hb => below_setCells vs (o + 1) (h.setCell (by simpa using hb) _) hb
theorem results_cell_mid {P : Program} {fn : Func} {p : Tmp} {ty : TypeId} (h : fn.results = #[.cell p ty]) (tmps : Array Value) (w : World) (b o : Nat) (cs : List Value) (d : TypeDesc)
    (hp : tmps.getD p undef = .pointer (some ⟨b, o, none⟩)) (hc : w.rangeAt b o cs)
    (hu : P.underlying ty = some d) (hd : d.isRow = true) (hi : (P.info? ty).map (·.size) = some cs.length) :
    (results fn tmps).run P w = .ok (.agg cs.toArray) w := by
  have hp' : tmps[p]?.getD undef = .pointer (some ⟨b, o, none⟩) := by simpa using hp
  simp [results, h, hp', asAddr, run_loadVar_mid w b o ty cs d hc hu hd hi]
theorem ML_one (A : MA) (m : MsgD) : (ML A m).toArray.all (·.oneCell') = true := by
  simp [ML, headL, cmdV, cmdL, viewC, Value.oneCell']
theorem cmdV_one (A : MA) (c : CmdD) : (cmdV A c).all (·.oneCell') = true := by
  simp [cmdV, cmdL, Value.oneCell']
section
variable {ops : Array Oper} {rest : List Oper} {op : Oper} {a : Go.Act} {w : World} {Q : Exit → Go.Act → World → Prop} {x y : Operand} {q : Nat} {A : MA} {m : MsgD}
theorem wpList_storeM (ht : w.there q 0 29) (hgd : op.guard = none) (ho : op.op = .store 37 x y)
    (hx : a.eval x = .pointer (some ⟨q, 0, none⟩)) (hy : a.eval y = .agg (ML A m).toArray) (hk : wpList Tryz.prog ops Q rest (a.put op.dst undef) (w.setCells q 0 (ML A m))) : wpList Tryz.prog ops Q (op :: rest) a w :=
  wpList_store_mid hgd 37 x y ho q 0 (ML A m).toArray hx hy ht infoM (ML_one A m) hk
theorem wpList_storeMC {c : CmdD} (ht : w.there q 14 10) (hgd : op.guard = none) (ho : op.op = .store 35 x y)
    (hx : a.eval x = .pointer (some ⟨q, 14, none⟩)) (hy : a.eval y = .agg (cmdV A c)) (hk : wpList Tryz.prog ops Q rest (a.put op.dst undef) (w.setCells q 14 (cmdV A c).toList)) : wpList Tryz.prog ops Q (op :: rest) a w :=
  wpList_store_mid hgd 35 x y ho q 14 (cmdV A c) hx hy ht infoC (cmdV_one A c) hk
end
/-! ### has, by its bits -/
theorem mhas0 {k : Int} {f : Nat} {r : Bool} {w : World} (hf : Hid (flN k = f)) (h : Hid (hb k 0 = r)) : Calls Tryz.prog 26 #[.int .u64 f, .int .u64 1] w fun e w' => e = .returned (.bool r) ∧ w = w' := by
  have := mhas_any f 0 1 rfl (by decide) (by rw [← hf.out]; exact flN_lt k) w
  rw [← hf.out, show hbF (flN k) 0 = r from h.out, hf.out] at this
  exact this
theorem mhas1 {k : Int} {f : Nat} {r : Bool} {w : World} (hf : Hid (flN k = f)) (h : Hid (hb k 1 = r)) : Calls Tryz.prog 26 #[.int .u64 f, .int .u64 2] w fun e w' => e = .returned (.bool r) ∧ w = w' := by
  have := mhas_any f 1 2 rfl (by decide) (by rw [← hf.out]; exact flN_lt k) w
  rw [← hf.out, show hbF (flN k) 1 = r from h.out, hf.out] at this
  exact this
theorem mhas2 {k : Int} {f : Nat} {r : Bool} {w : World} (hf : Hid (flN k = f)) (h : Hid (hb k 2 = r)) : Calls Tryz.prog 26 #[.int .u64 f, .int .u64 4] w fun e w' => e = .returned (.bool r) ∧ w = w' := by
  have := mhas_any f 2 4 rfl (by decide) (by rw [← hf.out]; exact flN_lt k) w
  rw [← hf.out, show hbF (flN k) 2 = r from h.out, hf.out] at this
  exact this
theorem mhas3 {k : Int} {f : Nat} {r : Bool} {w : World} (hf : Hid (flN k = f)) (h : Hid (hb k 3 = r)) : Calls Tryz.prog 26 #[.int .u64 f, .int .u64 8] w fun e w' => e = .returned (.bool r) ∧ w = w' := by
  have := mhas_any f 3 8 rfl (by decide) (by rw [← hf.out]; exact flN_lt k) w
  rw [← hf.out, show hbF (flN k) 3 = r from h.out, hf.out] at this
  exact this
theorem mhas4 {k : Int} {f : Nat} {r : Bool} {w : World} (hf : Hid (flN k = f)) (h : Hid (hb k 4 = r)) : Calls Tryz.prog 26 #[.int .u64 f, .int .u64 16] w fun e w' => e = .returned (.bool r) ∧ w = w' := by
  have := mhas_any f 4 16 rfl (by decide) (by rw [← hf.out]; exact flN_lt k) w
  rw [← hf.out, show hbF (flN k) 4 = r from h.out, hf.out] at this
  exact this
theorem mhas5 {k : Int} {f : Nat} {r : Bool} {w : World} (hf : Hid (flN k = f)) (h : Hid (hb k 5 = r)) : Calls Tryz.prog 26 #[.int .u64 f, .int .u64 32] w fun e w' => e = .returned (.bool r) ∧ w = w' := by
  have := mhas_any f 5 32 rfl (by decide) (by rw [← hf.out]; exact flN_lt k) w
  rw [← hf.out, show hbF (flN k) 5 = r from h.out, hf.out] at this
  exact this
theorem mhas6 {k : Int} {f : Nat} {r : Bool} {w : World} (hf : Hid (flN k = f)) (h : Hid (hb k 6 = r)) : Calls Tryz.prog 26 #[.int .u64 f, .int .u64 64] w fun e w' => e = .returned (.bool r) ∧ w = w' := by
  have := mhas_any f 6 64 rfl (by decide) (by rw [← hf.out]; exact flN_lt k) w
  rw [← hf.out, show hbF (flN k) 6 = r from h.out, hf.out] at this
  exact this
theorem mhas7 {k : Int} {f : Nat} {r : Bool} {w : World} (hf : Hid (flN k = f)) (h : Hid (hb k 7 = r)) : Calls Tryz.prog 26 #[.int .u64 f, .int .u64 128] w fun e w' => e = .returned (.bool r) ∧ w = w' := by
  have := mhas_any f 7 128 rfl (by decide) (by rw [← hf.out]; exact flN_lt k) w
  rw [← hf.out, show hbF (flN k) 7 = r from h.out, hf.out] at this
  exact this
theorem mhas8 {k : Int} {f : Nat} {r : Bool} {w : World} (hf : Hid (flN k = f)) (h : Hid (hb k 8 = r)) : Calls Tryz.prog 26 #[.int .u64 f, .int .u64 256] w fun e w' => e = .returned (.bool r) ∧ w = w' := by
  have := mhas_any f 8 256 rfl (by decide) (by rw [← hf.out]; exact flN_lt k) w
  rw [← hf.out, show hbF (flN k) 8 = r from h.out, hf.out] at this
  exact this
theorem mhas9 {k : Int} {f : Nat} {r : Bool} {w : World} (hf : Hid (flN k = f)) (h : Hid (hb k 9 = r)) : Calls Tryz.prog 26 #[.int .u64 f, .int .u64 512] w fun e w' => e = .returned (.bool r) ∧ w = w' := by
  have := mhas_any f 9 512 rfl (by decide) (by rw [← hf.out]; exact flN_lt k) w
  rw [← hf.out, show hbF (flN k) 9 = r from h.out, hf.out] at this
  exact this
/-! ### the message with the first fields of its kind -/
def zeroA : MA := ⟨none, 0, none, 0, none, 0, none, 0, none, 0, none, 0, none, 0, none, 0⟩
def inC (m : MsgD) (j : Nat) : Bool := ((hb m.kind 6 && m.has) && decide (6 < j)) || (hb m.kind 7 && decide (7 < j))
def inV (m : MsgD) (j : Nat) : Bool := hb m.kind 8 && decide (8 < j)
def inY (m : MsgD) (j : Nat) : Bool := hb m.kind 9 && decide (9 < j)
def onlyK (m : MsgD) (j : Nat) : MsgD :=
  { kind := m.kind
    who := if hb m.kind 0 && decide (0 < j) then m.who else (0, 0)
    vw := if hb m.kind 1 && decide (1 < j) then m.vw else 0
    sl := if hb m.kind 2 && decide (2 < j) then m.sl else 0
    b := if hb m.kind 3 && decide (3 < j) then m.b else zeroBal
    num := if hb m.kind 4 && decide (4 < j) then m.num else 0
    hops := if hb m.kind 5 && decide (5 < j) then m.hops else 0
    has := if hb m.kind 6 && decide (6 < j) then m.has else false
    a := if (hb m.kind 6 && m.has) && decide (6 < j) then m.a else zeroBal
    c := if inC m j then m.c else zeroC
    v := if inV m j then m.v else zeroV
    y := if inY m j then m.y else [] }
def selA (A : MA) (m : MsgD) (j : Nat) : MA :=
  { da := if inC m j then A.da else none, dc := if inC m j then A.dc else 0
    am := if inC m j then A.am else none, cm := if inC m j then A.cm else 0
    al := if inC m j then A.al else none, cl := if inC m j then A.cl else 0
    ad := if inC m j then A.ad else none, cd := if inC m j then A.cd else 0
    vm := if inV m j then A.vm else none, em := if inV m j then A.em else 0
    vl := if inV m j then A.vl else none, el := if inV m j then A.el else 0
    vd := if inV m j then A.vd else none, ed := if inV m j then A.ed else 0
    ya := if inY m j then A.ya else none, yc := if inY m j then A.yc else 0 }
theorem onlyK_10 (m : MsgD) : onlyK m 10 = onlyM m := by
  simp [onlyK, onlyM, inC, inV, inY]
theorem onlyL_0 (A : MA) (m : MsgD) : ML (selA A m 0) (onlyK m 0) = [.int .i64 m.kind, .int .u16 0, .int .u32 0, .int .u64 0, .int .u64 0, .int .u64 0, .int .i64 0, .int .u32 0, .int .u16 0, .int .u32 0, .int .u32 0, .int .u16 0, .int .u32 0, .bool false, .int .i64 0, .int .u16 0, .int .u32 0, .int .u64 0, .int .u64 0, .slice none 0 0, .int .u64 0, .slice none 0 0, .slice none 0 0, .slice none 0 0, .int .u64 0, .slice none 0 0, .slice none 0 0, .slice none 0 0, .slice none 0 0] := by
  simp [onlyK, selA, inC, inV, inY, ML, headL, cmdV, cmdL, viewC, zeroBal, zeroC, zeroV]
theorem onlyL_1_no {A : MA} {m : MsgD} (h : hb m.kind 0 = false) : ML (selA A m 1) (onlyK m 1) = ML (selA A m 0) (onlyK m 0) := by
  simp [onlyK, selA, inC, inV, inY, h]
theorem onlyL_1_yes {A : MA} {m : MsgD} (h : hb m.kind 0 = true) : ML (selA A m 1) (onlyK m 1) = ((ML (selA A m 0) (onlyK m 0)).set 1 (.int .u16 m.who.1)).set 2 (.int .u32 m.who.2) := by
  simp [onlyK, selA, inC, inV, inY, h, ML, headL, cmdV, cmdL, viewC]
theorem onlyL_2_no {A : MA} {m : MsgD} (h : hb m.kind 1 = false) : ML (selA A m 2) (onlyK m 2) = ML (selA A m 1) (onlyK m 1) := by
  simp [onlyK, selA, inC, inV, inY, h]
theorem onlyL_2_yes {A : MA} {m : MsgD} (h : hb m.kind 1 = true) : ML (selA A m 2) (onlyK m 2) = (ML (selA A m 1) (onlyK m 1)).set 3 (.int .u64 m.vw) := by
  simp [onlyK, selA, inC, inV, inY, h, ML, headL, cmdV, cmdL, viewC]
theorem onlyL_3_no {A : MA} {m : MsgD} (h : hb m.kind 2 = false) : ML (selA A m 3) (onlyK m 3) = ML (selA A m 2) (onlyK m 2) := by
  simp [onlyK, selA, inC, inV, inY, h]
theorem onlyL_3_yes {A : MA} {m : MsgD} (h : hb m.kind 2 = true) : ML (selA A m 3) (onlyK m 3) = (ML (selA A m 2) (onlyK m 2)).set 4 (.int .u64 m.sl) := by
  simp [onlyK, selA, inC, inV, inY, h, ML, headL, cmdV, cmdL, viewC]
theorem onlyL_4_no {A : MA} {m : MsgD} (h : hb m.kind 3 = false) : ML (selA A m 4) (onlyK m 4) = ML (selA A m 3) (onlyK m 3) := by
  simp [onlyK, selA, inC, inV, inY, h]
theorem onlyL_4_yes {A : MA} {m : MsgD} (h : hb m.kind 3 = true) : ML (selA A m 4) (onlyK m 4) = (((ML (selA A m 3) (onlyK m 3)).set 7 (.int .u32 m.b.1)).set 8 (.int .u16 m.b.2.1)).set 9 (.int .u32 m.b.2.2) := by
  simp [onlyK, selA, inC, inV, inY, h, ML, headL, cmdV, cmdL, viewC]
theorem onlyL_5_no {A : MA} {m : MsgD} (h : hb m.kind 4 = false) : ML (selA A m 5) (onlyK m 5) = ML (selA A m 4) (onlyK m 4) := by
  simp [onlyK, selA, inC, inV, inY, h]
theorem onlyL_5_yes {A : MA} {m : MsgD} (h : hb m.kind 4 = true) : ML (selA A m 5) (onlyK m 5) = (ML (selA A m 4) (onlyK m 4)).set 5 (.int .u64 m.num) := by
  simp [onlyK, selA, inC, inV, inY, h, ML, headL, cmdV, cmdL, viewC]
theorem onlyL_6_no {A : MA} {m : MsgD} (h : hb m.kind 5 = false) : ML (selA A m 6) (onlyK m 6) = ML (selA A m 5) (onlyK m 5) := by
  simp [onlyK, selA, inC, inV, inY, h]
theorem onlyL_6_yes {A : MA} {m : MsgD} (h : hb m.kind 5 = true) : ML (selA A m 6) (onlyK m 6) = (ML (selA A m 5) (onlyK m 5)).set 6 (.int .i64 m.hops) := by
  simp [onlyK, selA, inC, inV, inY, h, ML, headL, cmdV, cmdL, viewC]
theorem onlyL_7_no {A : MA} {m : MsgD} (h : hb m.kind 6 = false) : ML (selA A m 7) (onlyK m 7) = ML (selA A m 6) (onlyK m 6) := by
  simp [onlyK, selA, inC, inV, inY, h]
theorem onlyL_7_f {A : MA} {m : MsgD} (h : hb m.kind 6 = true) (hh : m.has = false) : ML (selA A m 7) (onlyK m 7) = (ML (selA A m 6) (onlyK m 6)).set 13 (.bool m.has) := by
  simp [onlyK, selA, inC, inV, inY, h, hh, ML, headL]
theorem onlyL_7_t {A : MA} {m : MsgD} (h : hb m.kind 6 = true) (hh : m.has = true) : ML (selA A m 7) (onlyK m 7) = setsL (((((ML (selA A m 6) (onlyK m 6)).set 13 (.bool m.has)).set 10 (.int .u32 m.a.1)).set 11 (.int .u16 m.a.2.1)).set 12 (.int .u32 m.a.2.2)) 14 (cmdV A m.c).toList := by
  simp [onlyK, selA, inC, inV, inY, h, hh, ML, headL, setsL, cmdV, cmdL, viewC]
theorem onlyL_8_no {A : MA} {m : MsgD} (h : hb m.kind 7 = false) : ML (selA A m 8) (onlyK m 8) = ML (selA A m 7) (onlyK m 7) := by
  simp [onlyK, selA, inC, inV, inY, h]
theorem onlyL_8_yes {A : MA} {m : MsgD} (h : hb m.kind 7 = true) : ML (selA A m 8) (onlyK m 8) = setsL (ML (selA A m 7) (onlyK m 7)) 14 (cmdV A m.c).toList := by
  simp [onlyK, selA, inC, inV, inY, h, ML, headL, setsL, cmdV, cmdL, viewC]
theorem onlyL_9_no {A : MA} {m : MsgD} (h : hb m.kind 8 = false) : ML (selA A m 9) (onlyK m 9) = ML (selA A m 8) (onlyK m 8) := by
  simp [onlyK, selA, inC, inV, inY, h]
theorem onlyL_9_yes {A : MA} {m : MsgD} (h : hb m.kind 8 = true) : ML (selA A m 9) (onlyK m 9) = ((((ML (selA A m 8) (onlyK m 8)).set 24 (.int .u64 m.v.id)).set 25 (.slice A.vm m.v.ms.length A.em)).set 26 (.slice A.vl m.v.ls.length A.el)).set 27 (.slice A.vd m.v.ds.length A.ed) := by
  simp [onlyK, selA, inC, inV, inY, h, ML, headL, cmdV, cmdL, viewC]
theorem onlyL_10_no {A : MA} {m : MsgD} (h : hb m.kind 9 = false) : ML (selA A m 10) (onlyK m 10) = ML (selA A m 9) (onlyK m 9) := by
  simp [onlyK, selA, inC, inV, inY, h]
theorem onlyL_10_yes {A : MA} {m : MsgD} (h : hb m.kind 9 = true) : ML (selA A m 10) (onlyK m 10) = (ML (selA A m 9) (onlyK m 9)).set 28 (.slice A.ya m.y.length A.yc) := by
  simp [onlyK, selA, inC, inV, inY, h, ML, headL, cmdV, cmdL, viewC]
set_option maxRecDepth 100000 in
set_option maxHeartbeats 12800000 in
theorem only_any {A : MA} {m : MsgD} {w : World} :
    Calls Tryz.prog 75 #[.agg (ML A m).toArray] w fun e w' => e = .returned (.agg (ML (selA A m 10) (onlyM m)).toArray) ∧ Below w.heap.size w w' := by
  obtain ⟨W2, hW2⟩ : ∃ W2, (w.alloc (.cells (ML A m).toArray 37)).alloc (.cells #[.int .i64 0, .int .u16 0, .int .u32 0, .int .u64 0, .int .u64 0, .int .u64 0, .int .i64 0, .int .u32 0, .int .u16 0, .int .u32 0, .int .u32 0, .int .u16 0, .int .u32 0, .bool false, .int .i64 0, .int .u16 0, .int .u32 0, .int .u64 0, .int .u64 0, .slice none 0 0, .int .u64 0, .slice none 0 0, .slice none 0 0, .slice none 0 0, .int .u64 0, .slice none 0 0, .slice none 0 0, .slice none 0 0, .slice none 0 0] 37) = W2 := ⟨_, rfl⟩
  have hz2 : W2.heap.size = w.heap.size + 2 := by rw [← hW2]; simp
  have hB2 : Below w.heap.size w W2 := by rw [← hW2]; exact ((Below.refl _ _).alloc (Nat.le_refl _) _).alloc (by simp) _
  have xA : MsgBox W2 w.heap.size A m := by rw [← hW2]; exact (MsgBox.made A m w _ _).ext ((Below.refl _ _).alloc (Nat.le_refl _) _) (by simp)
  have xR : OutL W2 (w.heap.size + 1) [.int .i64 0, .int .u16 0, .int .u32 0, .int .u64 0, .int .u64 0, .int .u64 0, .int .i64 0, .int .u32 0, .int .u16 0, .int .u32 0, .int .u32 0, .int .u16 0, .int .u32 0, .bool false, .int .i64 0, .int .u16 0, .int .u32 0, .int .u64 0, .int .u64 0, .slice none 0 0, .int .u64 0, .slice none 0 0, .slice none 0 0, .slice none 0 0, .int .u64 0, .slice none 0 0, .slice none 0 0, .slice none 0 0, .slice none 0 0] := by
    rw [← hW2]
    have := OutL.made [.int .i64 0, .int .u16 0, .int .u32 0, .int .u64 0, .int .u64 0, .int .u64 0, .int .i64 0, .int .u32 0, .int .u16 0, .int .u32 0, .int .u32 0, .int .u16 0, .int .u32 0, .bool false, .int .i64 0, .int .u16 0, .int .u32 0, .int .u64 0, .int .u64 0, .slice none 0 0, .int .u64 0, .slice none 0 0, .slice none 0 0, .slice none 0 0, .int .u64 0, .slice none 0 0, .slice none 0 0, .slice none 0 0, .slice none 0 0] (w.alloc (.cells (ML A m).toArray 37)) 37
    simpa using this
  obtain ⟨WZ, hWZ⟩ : ∃ WZ, W2.alloc (.cells #[.int .i64 0, .int .u16 0, .int .u32 0, .int .u64 0, .int .u64 0, .int .u64 0, .int .i64 0, .int .u32 0, .int .u16 0, .int .u32 0, .int .u32 0, .int .u16 0, .int .u32 0, .bool false, .int .i64 0, .int .u16 0, .int .u32 0, .int .u64 0, .int .u64 0, .slice none 0 0, .int .u64 0, .slice none 0 0, .slice none 0 0, .slice none 0 0, .int .u64 0, .slice none 0 0, .slice none 0 0, .slice none 0 0, .slice none 0 0] 37) = WZ := ⟨_, rfl⟩
  have oz : OutL WZ W2.heap.size [.int .i64 0, .int .u16 0, .int .u32 0, .int .u64 0, .int .u64 0, .int .u64 0, .int .i64 0, .int .u32 0, .int .u16 0, .int .u32 0, .int .u32 0, .int .u16 0, .int .u32 0, .bool false, .int .i64 0, .int .u16 0, .int .u32 0, .int .u64 0, .int .u64 0, .slice none 0 0, .int .u64 0, .slice none 0 0, .slice none 0 0, .slice none 0 0, .int .u64 0, .slice none 0 0, .slice none 0 0, .slice none 0 0, .slice none 0 0] := by rw [← hWZ]; exact OutL.made _ _ _
  have hBZ : Below W2.heap.size W2 WZ := by rw [← hWZ]; exact (Below.refl _ _).alloc (Nat.le_refl _) _
  have ht0 : WZ.there W2.heap.size 0 29 := oz.there (by simp)
  obtain ⟨W3, hW3⟩ : ∃ W3, WZ.setCells W2.heap.size 0 (ML zeroA { zeroM with kind := m.kind }) = W3 := ⟨_, rfl⟩
  have hB3 : Below W2.heap.size W2 W3 := by rw [← hW3]; exact below_setCells _ _ hBZ (Nat.le_refl _)
  have ho : OutL W3 W2.heap.size (ML (selA A m 0) (onlyK m 0)) := by
    have h1 := oz.sets (vs := ML zeroA { zeroM with kind := m.kind }) (o := 0) (by simp [ML_len])
    rw [hW3] at h1
    have e : setsL [.int .i64 0, .int .u16 0, .int .u32 0, .int .u64 0, .int .u64 0, .int .u64 0, .int .i64 0, .int .u32 0, .int .u16 0, .int .u32 0, .int .u32 0, .int .u16 0, .int .u32 0, .bool false, .int .i64 0, .int .u16 0, .int .u32 0, .int .u64 0, .int .u64 0, .slice none 0 0, .int .u64 0, .slice none 0 0, .slice none 0 0, .slice none 0 0, .int .u64 0, .slice none 0 0, .slice none 0 0, .slice none 0 0, .slice none 0 0] 0 (ML zeroA { zeroM with kind := m.kind }) = ML (selA A m 0) (onlyK m 0) := by
      rw [onlyL_0]; simp [setsL, ML, headL, cmdV, cmdL, viewC, zeroM, zeroA, zeroBal, zeroC, zeroV]
    rw [e] at h1
    exact h1
  have HXA : Hid (∀ W, Below W2.heap.size W3 W → MsgBox W w.heap.size A m) := hid fun W h => (xA.ext hB3 (by omega)).ext h (by omega)
  have HXR : Hid (∀ W, Below W2.heap.size W3 W → OutL W (w.heap.size + 1) [.int .i64 0, .int .u16 0, .int .u32 0, .int .u64 0, .int .u64 0, .int .u64 0, .int .i64 0, .int .u32 0, .int .u16 0, .int .u32 0, .int .u32 0, .int .u16 0, .int .u32 0, .bool false, .int .i64 0, .int .u16 0, .int .u32 0, .int .u64 0, .int .u64 0, .slice none 0 0, .int .u64 0, .slice none 0 0, .slice none 0 0, .slice none 0 0, .int .u64 0, .slice none 0 0, .slice none 0 0, .slice none 0 0, .slice none 0 0]) := hid fun W h => (xR.ext hB3 (by omega)).ext h (by omega)
  have HB2 := hid (hB2.trans (hB3.mono (by omega)))
  have HZ2 := hid hz2
  have a0 : W2.cell? ⟨w.heap.size, 0, none⟩ = some (.int .i64 m.kind) := xA.cell rfl
  obtain ⟨f, hf⟩ : ∃ f, flN m.kind = f := ⟨_, rfl⟩
  have HF := hid hf
  have FL := hid (fields_any m.kind W2)
  rw [hf] at FL
  obtain ⟨r0, hr0⟩ : ∃ r, hb m.kind 0 = r := ⟨_, rfl⟩
  have HR0 := hid hr0
  obtain ⟨r1, hr1⟩ : ∃ r, hb m.kind 1 = r := ⟨_, rfl⟩
  have HR1 := hid hr1
  obtain ⟨r2, hr2⟩ : ∃ r, hb m.kind 2 = r := ⟨_, rfl⟩
  have HR2 := hid hr2
  obtain ⟨r3, hr3⟩ : ∃ r, hb m.kind 3 = r := ⟨_, rfl⟩
  have HR3 := hid hr3
  obtain ⟨r4, hr4⟩ : ∃ r, hb m.kind 4 = r := ⟨_, rfl⟩
  have HR4 := hid hr4
  obtain ⟨r5, hr5⟩ : ∃ r, hb m.kind 5 = r := ⟨_, rfl⟩
  have HR5 := hid hr5
  obtain ⟨r6, hr6⟩ : ∃ r, hb m.kind 6 = r := ⟨_, rfl⟩
  have HR6 := hid hr6
  obtain ⟨r7, hr7⟩ : ∃ r, hb m.kind 7 = r := ⟨_, rfl⟩
  have HR7 := hid hr7
  obtain ⟨r8, hr8⟩ : ∃ r, hb m.kind 8 = r := ⟨_, rfl⟩
  have HR8 := hid hr8
  obtain ⟨r9, hr9⟩ : ∃ r, hb m.kind 9 = r := ⟨_, rfl⟩
  have HR9 := hid hr9
  clear hf hz2 hB2 hB3 hBZ oz xA xR hr0 hr1 hr2 hr3 hr4 hr5 hr6 hr7 hr8 hr9
  have HO := hid ho
  have HBW : Hid (Below W2.heap.size W3 W3) := hid (Below.refl _ _)
  clear ho
  go_enter Tryz.func75, Tryz.ntmps75
  go_upto_if 12 with (first
    | (go_at_call 26; (with_reducible refine (mhas0 HF HR0).mono ?_); rintro e wz ⟨rfl, rfl⟩)
    | (refine wpList_storeM (A := zeroA) (m := { zeroM with kind := m.kind }) ht0 rfl rfl rfl rfl ?_; rw [hW3])
    | (go_at_call 24; (with_reducible refine FL.out.mono ?_); rintro e wz ⟨rfl, rfl⟩))
  clear a0
  go_cut [4] (fun s wx => s = .pointer (some ⟨W2.heap.size, 0, none⟩) ∧ OutL wx W2.heap.size (ML (selA A m 1) (onlyK m 1)) ∧ Below W2.heap.size W3 wx)
  case first =>
    cases r0
    case false =>
      go_wp2_with fail
      go_meet
      exact ⟨rfl, by rw [onlyL_1_no HR0.out]; exact HO.out, HBW.out⟩
    case true =>
      have a1 : W3.cell? ⟨w.heap.size, 1, none⟩ = some (.int .u16 m.who.1) := (HXA.out _ HBW.out).cell rfl
      have a2 : W3.cell? ⟨w.heap.size, 2, none⟩ = some (.int .u32 m.who.2) := (HXA.out _ HBW.out).cell rfl
      obtain ⟨u1, o1⟩ : ∃ u, W3.cell? ⟨W2.heap.size, 1, none⟩ = some u := ⟨_, HO.out.cell rfl⟩
      have f1 := HO.out.f 1
      obtain ⟨u2, o2⟩ : ∃ u, W3.cell? ⟨W2.heap.size, 2, none⟩ = some u := ⟨_, HO.out.cell rfl⟩
      have f2 := HO.out.f 2
      go_wp2_with fail
      go_meet
      exact ⟨rfl, by rw [onlyL_1_yes HR0.out]; exact ((HO.out).set (j := 1) (by simp only [ML_len]; decide) _).set (j := 2) (by simp only [List.length_set, ML_len]; decide) _, below_set (below_set (HBW.out) (Nat.le_refl _)) (Nat.le_refl _)⟩
  case rest =>
  obtain ⟨rfl, ho0, hbw0⟩ := hcut
  rename World => wc0
  clear HO HBW
  have HO := hid ho0
  have HBW := hid hbw0
  clear ho0 hbw0
  go_upto_if 17 with (first
    | (go_at_call 26; (with_reducible refine (mhas1 HF HR1).mono ?_); rintro e wz ⟨rfl, rfl⟩))
  go_cut [4] (fun s wx => s = .pointer (some ⟨W2.heap.size, 0, none⟩) ∧ OutL wx W2.heap.size (ML (selA A m 2) (onlyK m 2)) ∧ Below W2.heap.size W3 wx)
  case first =>
    cases r1
    case false =>
      go_wp2_with fail
      go_meet
      exact ⟨rfl, by rw [onlyL_2_no HR1.out]; exact HO.out, HBW.out⟩
    case true =>
      have a3 : wc0.cell? ⟨w.heap.size, 3, none⟩ = some (.int .u64 m.vw) := (HXA.out _ HBW.out).cell rfl
      obtain ⟨u3, o3⟩ : ∃ u, wc0.cell? ⟨W2.heap.size, 3, none⟩ = some u := ⟨_, HO.out.cell rfl⟩
      have f3 := HO.out.f 3
      go_wp2_with fail
      go_meet
      exact ⟨rfl, by rw [onlyL_2_yes HR1.out]; exact (HO.out).set (j := 3) (by simp only [ML_len]; decide) _, below_set (HBW.out) (Nat.le_refl _)⟩
  case rest =>
  obtain ⟨rfl, ho1, hbw1⟩ := hcut
  rename World => wc1
  clear HO HBW
  have HO := hid ho1
  have HBW := hid hbw1
  clear ho1 hbw1
  go_upto_if 22 with (first
    | (go_at_call 26; (with_reducible refine (mhas2 HF HR2).mono ?_); rintro e wz ⟨rfl, rfl⟩))
  go_cut [4] (fun s wx => s = .pointer (some ⟨W2.heap.size, 0, none⟩) ∧ OutL wx W2.heap.size (ML (selA A m 3) (onlyK m 3)) ∧ Below W2.heap.size W3 wx)
  case first =>
    cases r2
    case false =>
      go_wp2_with fail
      go_meet
      exact ⟨rfl, by rw [onlyL_3_no HR2.out]; exact HO.out, HBW.out⟩
    case true =>
      have a4 : wc1.cell? ⟨w.heap.size, 4, none⟩ = some (.int .u64 m.sl) := (HXA.out _ HBW.out).cell rfl
      obtain ⟨u4, o4⟩ : ∃ u, wc1.cell? ⟨W2.heap.size, 4, none⟩ = some u := ⟨_, HO.out.cell rfl⟩
      have f4 := HO.out.f 4
      go_wp2_with fail
      go_meet
      exact ⟨rfl, by rw [onlyL_3_yes HR2.out]; exact (HO.out).set (j := 4) (by simp only [ML_len]; decide) _, below_set (HBW.out) (Nat.le_refl _)⟩
  case rest =>
  obtain ⟨rfl, ho2, hbw2⟩ := hcut
  rename World => wc2
  clear HO HBW
  have HO := hid ho2
  have HBW := hid hbw2
  clear ho2 hbw2
  go_upto_if 27 with (first
    | (go_at_call 26; (with_reducible refine (mhas3 HF HR3).mono ?_); rintro e wz ⟨rfl, rfl⟩))
  go_cut [4] (fun s wx => s = .pointer (some ⟨W2.heap.size, 0, none⟩) ∧ OutL wx W2.heap.size (ML (selA A m 4) (onlyK m 4)) ∧ Below W2.heap.size W3 wx)
  case first =>
    cases r3
    case false =>
      go_wp2_with fail
      go_meet
      exact ⟨rfl, by rw [onlyL_4_no HR3.out]; exact HO.out, HBW.out⟩
    case true =>
      have a7 : wc2.cell? ⟨w.heap.size, 7, none⟩ = some (.int .u32 m.b.1) := (HXA.out _ HBW.out).cell rfl
      have a8 : wc2.cell? ⟨w.heap.size, 8, none⟩ = some (.int .u16 m.b.2.1) := (HXA.out _ HBW.out).cell rfl
      have a9 : wc2.cell? ⟨w.heap.size, 9, none⟩ = some (.int .u32 m.b.2.2) := (HXA.out _ HBW.out).cell rfl
      obtain ⟨u7, o7⟩ : ∃ u, wc2.cell? ⟨W2.heap.size, 7, none⟩ = some u := ⟨_, HO.out.cell rfl⟩
      have f7 := HO.out.f 7
      obtain ⟨u8, o8⟩ : ∃ u, wc2.cell? ⟨W2.heap.size, 8, none⟩ = some u := ⟨_, HO.out.cell rfl⟩
      have f8 := HO.out.f 8
      obtain ⟨u9, o9⟩ : ∃ u, wc2.cell? ⟨W2.heap.size, 9, none⟩ = some u := ⟨_, HO.out.cell rfl⟩
      have f9 := HO.out.f 9
      go_wp2_with fail
      go_meet
      exact ⟨rfl, by rw [onlyL_4_yes HR3.out]; exact (((HO.out).set (j := 7) (by simp only [ML_len]; decide) _).set (j := 8) (by simp only [List.length_set, ML_len]; decide) _).set (j := 9) (by simp only [List.length_set, ML_len]; decide) _, below_set (below_set (below_set (HBW.out) (Nat.le_refl _)) (Nat.le_refl _)) (Nat.le_refl _)⟩
  case rest =>
  obtain ⟨rfl, ho3, hbw3⟩ := hcut
  rename World => wc3
  clear HO HBW
  have HO := hid ho3
  have HBW := hid hbw3
  clear ho3 hbw3
  go_upto_if 32 with (first
    | (go_at_call 26; (with_reducible refine (mhas4 HF HR4).mono ?_); rintro e wz ⟨rfl, rfl⟩))
  go_cut [4] (fun s wx => s = .pointer (some ⟨W2.heap.size, 0, none⟩) ∧ OutL wx W2.heap.size (ML (selA A m 5) (onlyK m 5)) ∧ Below W2.heap.size W3 wx)
  case first =>
    cases r4
    case false =>
      go_wp2_with fail
      go_meet
      exact ⟨rfl, by rw [onlyL_5_no HR4.out]; exact HO.out, HBW.out⟩
    case true =>
      have a5 : wc3.cell? ⟨w.heap.size, 5, none⟩ = some (.int .u64 m.num) := (HXA.out _ HBW.out).cell rfl
      obtain ⟨u5, o5⟩ : ∃ u, wc3.cell? ⟨W2.heap.size, 5, none⟩ = some u := ⟨_, HO.out.cell rfl⟩
      have f5 := HO.out.f 5
      go_wp2_with fail
      go_meet
      exact ⟨rfl, by rw [onlyL_5_yes HR4.out]; exact (HO.out).set (j := 5) (by simp only [ML_len]; decide) _, below_set (HBW.out) (Nat.le_refl _)⟩
  case rest =>
  obtain ⟨rfl, ho4, hbw4⟩ := hcut
  rename World => wc4
  clear HO HBW
  have HO := hid ho4
  have HBW := hid hbw4
  clear ho4 hbw4
  go_upto_if 37 with (first
    | (go_at_call 26; (with_reducible refine (mhas5 HF HR5).mono ?_); rintro e wz ⟨rfl, rfl⟩))
  go_cut [4] (fun s wx => s = .pointer (some ⟨W2.heap.size, 0, none⟩) ∧ OutL wx W2.heap.size (ML (selA A m 6) (onlyK m 6)) ∧ Below W2.heap.size W3 wx)
  case first =>
    cases r5
    case false =>
      go_wp2_with fail
      go_meet
      exact ⟨rfl, by rw [onlyL_6_no HR5.out]; exact HO.out, HBW.out⟩
    case true =>
      have a6 : wc4.cell? ⟨w.heap.size, 6, none⟩ = some (.int .i64 m.hops) := (HXA.out _ HBW.out).cell rfl
      obtain ⟨u6, o6⟩ : ∃ u, wc4.cell? ⟨W2.heap.size, 6, none⟩ = some u := ⟨_, HO.out.cell rfl⟩
      have f6 := HO.out.f 6
      go_wp2_with fail
      go_meet
      exact ⟨rfl, by rw [onlyL_6_yes HR5.out]; exact (HO.out).set (j := 6) (by simp only [ML_len]; decide) _, below_set (HBW.out) (Nat.le_refl _)⟩
  case rest =>
  obtain ⟨rfl, ho5, hbw5⟩ := hcut
  rename World => wc5
  clear HO HBW
  have HO := hid ho5
  have HBW := hid hbw5
  clear ho5 hbw5
  go_upto_if 42 with (first
    | (go_at_call 26; (with_reducible refine (mhas6 HF HR6).mono ?_); rintro e wz ⟨rfl, rfl⟩))
  go_cut [4] (fun s wx => s = .pointer (some ⟨W2.heap.size, 0, none⟩) ∧ OutL wx W2.heap.size (ML (selA A m 7) (onlyK m 7)) ∧ Below W2.heap.size W3 wx)
  case first =>
    cases r6
    case false =>
      go_wp2_with fail
      go_meet
      exact ⟨rfl, by rw [onlyL_7_no HR6.out]; exact HO.out, HBW.out⟩
    case true =>
      have a13 : wc5.cell? ⟨w.heap.size, 13, none⟩ = some (.bool m.has) := (HXA.out _ HBW.out).cell rfl
      obtain ⟨u13, o13⟩ : ∃ u, wc5.cell? ⟨W2.heap.size, 13, none⟩ = some u := ⟨_, HO.out.cell rfl⟩
      have f13 := HO.out.f 13
      obtain ⟨u10, o10⟩ : ∃ u, wc5.cell? ⟨W2.heap.size, 10, none⟩ = some u := ⟨_, HO.out.cell rfl⟩
      have f10 := HO.out.f 10
      obtain ⟨u11, o11⟩ : ∃ u, wc5.cell? ⟨W2.heap.size, 11, none⟩ = some u := ⟨_, HO.out.cell rfl⟩
      have f11 := HO.out.f 11
      obtain ⟨u12, o12⟩ : ∃ u, wc5.cell? ⟨W2.heap.size, 12, none⟩ = some u := ⟨_, HO.out.cell rfl⟩
      have f12 := HO.out.f 12
      cases hh : m.has
      case false =>
        have HH := hid hh
        rw [hh] at a13
        have a13b : (wc5.setCell ⟨W2.heap.size, 13, none⟩ (.bool false)).cell? ⟨w.heap.size, 13, none⟩ = some (.bool false) := (off_blk (by rw [HZ2.out]; omega)).trans a13
        clear hh
        go_wp2_with fail
        go_meet
        exact ⟨rfl, by rw [onlyL_7_f HR6.out HH.out, HH.out]; exact (HO.out).set (j := 13) (by simp only [ML_len]; decide) _, below_set (HBW.out) (Nat.le_refl _)⟩
      case true =>
        have HH := hid hh
        rw [hh] at a13
        clear hh
        obtain ⟨wn, hwn⟩ : ∃ wn, wc5.setCell ⟨W2.heap.size, 13, none⟩ (.bool true) = wn := ⟨_, rfl⟩
        have hon : OutL wn W2.heap.size ((ML (selA A m 6) (onlyK m 6)).set 13 (.bool m.has)) := by rw [← hwn, HH.out]; exact (HO.out).set (j := 13) (by simp only [ML_len]; decide) _
        have hbn : Below W2.heap.size W3 wn := by rw [← hwn]; exact below_set (HBW.out) (Nat.le_refl _)
        have HXN : Hid (∀ W, Below W2.heap.size wn W → MsgBox W w.heap.size A m) := hid fun W h => HXA.out W (hbn.trans h)
        have a13n : wn.cell? ⟨w.heap.size, 13, none⟩ = some (.bool true) := by rw [← HH.out]; exact (HXN.out wn (Below.refl _ _)).cell rfl
        go_wp2_with fail
        have HON := hid hon
        have HS : Hid (∀ W, Below W2.heap.size wn W → W.rangeAt w.heap.size 14 (cmdV A m.c).toList ∧ W.cell? ⟨w.heap.size, 10, none⟩ = some (.int .u32 m.a.1) ∧ W.cell? ⟨w.heap.size, 11, none⟩ = some (.int .u16 m.a.2.1) ∧ W.cell? ⟨w.heap.size, 12, none⟩ = some (.int .u32 m.a.2.2)) := hid fun W h => ⟨(HXN.out W h).cmd, (HXN.out W h).cell rfl, (HXN.out W h).cell rfl, (HXN.out W h).cell rfl⟩
        have H0 : Below W2.heap.size wn wn.drew := (Below.refl _ _).drew
        have hod := hon.ext (Below.refl (W2.heap.size + 1) wn).drew (Nat.lt_succ_self _)
        obtain ⟨v10, o10⟩ : ∃ u, wn.cell? ⟨W2.heap.size, 10, none⟩ = some u := ⟨_, hon.cell rfl⟩
        obtain ⟨v11, o11⟩ : ∃ u, wn.cell? ⟨W2.heap.size, 11, none⟩ = some u := ⟨_, hon.cell rfl⟩
        obtain ⟨v12, o12⟩ : ∃ u, wn.cell? ⟨W2.heap.size, 12, none⟩ = some u := ⟨_, hon.cell rfl⟩
        have f10 := hon.f 10
        have f11 := hon.f 11
        have f12 := hon.f 12
        refine wp_region_held_drew (S := fun W => W.rangeAt w.heap.size 14 (cmdV A m.c).toList ∧ W.cell? ⟨w.heap.size, 10, none⟩ = some (.int .u32 m.a.1) ∧ W.cell? ⟨w.heap.size, 11, none⟩ = some (.int .u16 m.a.2.1) ∧ W.cell? ⟨w.heap.size, 12, none⟩ = some (.int .u32 m.a.2.2)) (by kernel_rfl) (HS.out _ H0) (fun hHeld => ?_)
        refine wpAnyH_take (i := 0) (oi := _) (v := .pointer (some ⟨w.heap.size, 10, none⟩)) rfl (by kernel_rfl) (by kernel_rfl) (by kernel_rfl) (fun _ _ _ h => h) (Or.inl ⟨by rfl, ?_⟩) (by assumption) ?_
        · intro W hSw
          try dsimp only at hSw
          go_simp
        try simp only [Act.put, List.getElem_toArray, List.getElem_cons_zero, List.setIfInBounds_toArray, List.set_cons_zero, List.set_cons_succ]
        refine wpAnyH_take (i := 1) (oi := _) (v := .agg #[.int .u32 m.a.1, .int .u16 m.a.2.1, .int .u32 m.a.2.2]) rfl (by kernel_rfl) (by kernel_rfl) (by kernel_rfl) (fun _ _ _ h => h) (Or.inl ⟨by rfl, ?_⟩) (by assumption) ?_
        · intro W hSw
          try dsimp only at hSw
          go_simp
        try simp only [Act.put, List.getElem_toArray, List.getElem_cons_succ, List.getElem_cons_zero, List.setIfInBounds_toArray, List.set_cons_zero, List.set_cons_succ]
        refine wpAnyH_take (i := 2) (oi := _) (v := .pointer (some ⟨w.heap.size, 14, none⟩)) rfl (by kernel_rfl) (by kernel_rfl) (by kernel_rfl) (fun _ _ _ h => h) (Or.inl ⟨by rfl, ?_⟩) (by assumption) ?_
        · intro W hSw
          try dsimp only at hSw
          go_simp
        try simp only [Act.put, List.getElem_toArray, List.getElem_cons_succ, List.getElem_cons_zero, List.setIfInBounds_toArray, List.set_cons_zero, List.set_cons_succ]
        refine wpAnyH_take (i := 3) (oi := _) (v := .agg (cmdV A m.c)) rfl (by kernel_rfl) (by kernel_rfl) (by kernel_rfl) (fun _ _ _ h => h) (yieldsIf_load_mid (by rfl) 35 _ rfl w.heap.size 14 rfl (cmdV A m.c).toList _ (fun W h => h.1) Tryz.underlying35 rfl infoC) (by assumption) ?_
        try simp only [Act.put, List.getElem_toArray, List.getElem_cons_succ, List.getElem_cons_zero, List.setIfInBounds_toArray, List.set_cons_zero, List.set_cons_succ]
        refine wpAnyH_take (i := 4) (oi := _) (v := .pointer (some ⟨W2.heap.size, 10, none⟩)) rfl (by kernel_rfl) (by kernel_rfl) (by kernel_rfl) (fun _ _ _ h => h) (Or.inl ⟨by rfl, ?_⟩) (by assumption) ?_
        · intro W hSw
          try dsimp only at hSw
          go_simp
        try simp only [Act.put, List.getElem_toArray, List.getElem_cons_succ, List.getElem_cons_zero, List.setIfInBounds_toArray, List.set_cons_zero, List.set_cons_succ]
        refine wpAnyH_ready (rs := [5]) (by kernel_rfl) (by simp) ?_
        refine AllReadyH.cons (o := _) rfl (fun K hK => ?_) AllReadyH.nil
        go_simp
        refine hK.out _ _ (HS.out _ (below_set (below_set (below_set H0 (Nat.le_refl _)) (Nat.le_refl _)) (Nat.le_refl _))) (fun hHeld => ?_)
        clear hK K
        try simp only [Act.put, List.getElem_toArray, List.getElem_cons_succ, List.getElem_cons_zero, List.setIfInBounds_toArray, List.set_cons_zero, List.set_cons_succ]
        refine wpAnyH_take (i := 6) (oi := _) (v := .pointer (some ⟨W2.heap.size, 14, none⟩)) rfl (by kernel_rfl) (by kernel_rfl) (by kernel_rfl) (fun _ _ _ h => h) (Or.inl ⟨by rfl, ?_⟩) (by assumption) ?_
        · intro W hSw
          try dsimp only at hSw
          go_simp
        try simp only [Act.put, List.getElem_toArray, List.getElem_cons_succ, List.getElem_cons_zero, List.setIfInBounds_toArray, List.set_cons_zero, List.set_cons_succ]
        have ho3 := ((hod.set (j := 10) (by simp only [List.length_set, ML_len]; decide) (.int .u32 m.a.1)).set (j := 11) (by simp only [List.length_set, ML_len]; decide) (.int .u16 m.a.2.1)).set (j := 12) (by simp only [List.length_set, ML_len]; decide) (.int .u32 m.a.2.2)
        have ht := ho3.there (o := 14) (n := 10) (by simp only [List.length_set, ML_len]; decide)
        refine wpAnyH_ready (rs := [7]) (by kernel_rfl) (by simp) ?_
        refine AllReadyH.cons (o := _) rfl (fun K hK => ?_) AllReadyH.nil
        refine (show _ from ?_)
        rw [if_pos (by rfl)]
        refine wp_store_mid 35 _ _ rfl W2.heap.size 14 (cmdV A m.c) rfl rfl ht infoC (cmdV_one A m.c) ?_
        refine hK.out _ _ (HS.out _ (below_setCells _ _ (below_set (below_set (below_set H0 (Nat.le_refl _)) (Nat.le_refl _)) (Nat.le_refl _)) (Nat.le_refl _))) (fun hHeld => ?_)
        clear hK K
        try simp only [Act.put, List.getElem_toArray, List.getElem_cons_succ, List.getElem_cons_zero]
        refine wpAnyH_done (by kernel_rfl) ?_ _
        go_wp2_with fail
        go_meet
        exact ⟨rfl, by rw [onlyL_7_t HR6.out HH.out]; exact ho3.sets (by simp only [List.length_set, ML_len]; simp [cmdV, cmdL]), hbn.trans (below_setCells _ _ (below_set (below_set (below_set H0 (Nat.le_refl _)) (Nat.le_refl _)) (Nat.le_refl _)) (Nat.le_refl _))⟩
  case rest =>
  obtain ⟨rfl, ho6, hbw6⟩ := hcut
  rename World => wc6
  clear HO HBW
  have HO := hid ho6
  have HBW := hid hbw6
  clear ho6 hbw6
  go_upto_if 55 with (first
    | (go_at_call 26; (with_reducible refine (mhas7 HF HR7).mono ?_); rintro e wz ⟨rfl, rfl⟩))
  go_cut [4] (fun s wx => s = .pointer (some ⟨W2.heap.size, 0, none⟩) ∧ OutL wx W2.heap.size (ML (selA A m 8) (onlyK m 8)) ∧ Below W2.heap.size W3 wx)
  case first =>
    cases r7
    case false =>
      go_wp2_with fail
      go_meet
      exact ⟨rfl, by rw [onlyL_8_no HR7.out]; exact HO.out, HBW.out⟩
    case true =>
      have xm := HXA.out _ HBW.out
      have ht : wc6.there W2.heap.size 14 10 := HO.out.there (by rw [ML_len]; decide)
      go_wp2_with (first | (refine wpList_loadMC xm rfl rfl rfl ?_) | (refine wpList_storeMC (A := A) (c := m.c) ht rfl rfl rfl rfl ?_))
      go_meet
      exact ⟨rfl, by rw [onlyL_8_yes HR7.out]; exact HO.out.sets (by rw [ML_len]; simp [cmdV, cmdL]), below_setCells _ _ HBW.out (Nat.le_refl _)⟩
  case rest =>
  obtain ⟨rfl, ho7, hbw7⟩ := hcut
  rename World => wc7
  clear HO HBW
  have HO := hid ho7
  have HBW := hid hbw7
  clear ho7 hbw7
  go_upto_if 60 with (first
    | (go_at_call 26; (with_reducible refine (mhas8 HF HR8).mono ?_); rintro e wz ⟨rfl, rfl⟩))
  go_cut [4] (fun s wx => s = .pointer (some ⟨W2.heap.size, 0, none⟩) ∧ OutL wx W2.heap.size (ML (selA A m 9) (onlyK m 9)) ∧ Below W2.heap.size W3 wx)
  case first =>
    cases r8
    case false =>
      go_wp2_with fail
      go_meet
      exact ⟨rfl, by rw [onlyL_9_no HR8.out]; exact HO.out, HBW.out⟩
    case true =>
      have a24 : wc7.cell? ⟨w.heap.size, 24, none⟩ = some (.int .u64 m.v.id) := (HXA.out _ HBW.out).cell rfl
      have a25 : wc7.cell? ⟨w.heap.size, 25, none⟩ = some (.slice A.vm m.v.ms.length A.em) := (HXA.out _ HBW.out).cell rfl
      have a26 : wc7.cell? ⟨w.heap.size, 26, none⟩ = some (.slice A.vl m.v.ls.length A.el) := (HXA.out _ HBW.out).cell rfl
      have a27 : wc7.cell? ⟨w.heap.size, 27, none⟩ = some (.slice A.vd m.v.ds.length A.ed) := (HXA.out _ HBW.out).cell rfl
      obtain ⟨u24, o24⟩ : ∃ u, wc7.cell? ⟨W2.heap.size, 24, none⟩ = some u := ⟨_, HO.out.cell rfl⟩
      have f24 := HO.out.f 24
      obtain ⟨u25, o25⟩ : ∃ u, wc7.cell? ⟨W2.heap.size, 25, none⟩ = some u := ⟨_, HO.out.cell rfl⟩
      have f25 := HO.out.f 25
      obtain ⟨u26, o26⟩ : ∃ u, wc7.cell? ⟨W2.heap.size, 26, none⟩ = some u := ⟨_, HO.out.cell rfl⟩
      have f26 := HO.out.f 26
      obtain ⟨u27, o27⟩ : ∃ u, wc7.cell? ⟨W2.heap.size, 27, none⟩ = some u := ⟨_, HO.out.cell rfl⟩
      have f27 := HO.out.f 27
      go_wp2_with fail
      go_meet
      exact ⟨rfl, by rw [onlyL_9_yes HR8.out]; exact ((((HO.out).set (j := 24) (by simp only [ML_len]; decide) _).set (j := 25) (by simp only [List.length_set, ML_len]; decide) _).set (j := 26) (by simp only [List.length_set, ML_len]; decide) _).set (j := 27) (by simp only [List.length_set, ML_len]; decide) _, below_set (below_set (below_set (below_set (HBW.out) (Nat.le_refl _)) (Nat.le_refl _)) (Nat.le_refl _)) (Nat.le_refl _)⟩
  case rest =>
  obtain ⟨rfl, ho8, hbw8⟩ := hcut
  rename World => wc8
  clear HO HBW
  have HO := hid ho8
  have HBW := hid hbw8
  clear ho8 hbw8
  go_upto_if 65 with (first
    | (go_at_call 26; (with_reducible refine (mhas9 HF HR9).mono ?_); rintro e wz ⟨rfl, rfl⟩))
  go_cut [4] (fun s wx => s = .pointer (some ⟨W2.heap.size, 0, none⟩) ∧ OutL wx W2.heap.size (ML (selA A m 10) (onlyK m 10)) ∧ Below W2.heap.size W3 wx)
  case first =>
    cases r9
    case false =>
      go_wp2_with fail
      go_meet
      exact ⟨rfl, by rw [onlyL_10_no HR9.out]; exact HO.out, HBW.out⟩
    case true =>
      have a28 : wc8.cell? ⟨w.heap.size, 28, none⟩ = some (.slice A.ya m.y.length A.yc) := (HXA.out _ HBW.out).cell rfl
      obtain ⟨u28, o28⟩ : ∃ u, wc8.cell? ⟨W2.heap.size, 28, none⟩ = some u := ⟨_, HO.out.cell rfl⟩
      have f28 := HO.out.f 28
      go_wp2_with fail
      go_meet
      exact ⟨rfl, by rw [onlyL_10_yes HR9.out]; exact (HO.out).set (j := 28) (by simp only [ML_len]; decide) _, below_set (HBW.out) (Nat.le_refl _)⟩
  case rest =>
  obtain ⟨rfl, ho9, hbw9⟩ := hcut
  rename World => wc9
  clear HO HBW
  have HO := hid ho9
  have HBW := hid hbw9
  clear ho9 hbw9
  have hot : OutL wc9 W2.heap.size (ML (selA A m 10) (onlyM m)) := by have := HO.out; rw [onlyK_10] at this; exact this
  have hom : MsgBox wc9 W2.heap.size (selA A m 10) (onlyM m) := hot.r
  have hrt : wc9.there (w.heap.size + 1) 0 29 := (HXR.out _ HBW.out).there (by simp)
  go_wp2_with (first | (refine wpList_loadM hom rfl rfl rfl ?_) | (refine wpList_storeM (A := selA A m 10) (m := onlyM m) hrt rfl rfl rfl rfl ?_))
  refine bodyPost_ret (v := .agg (ML (selA A m 10) (onlyM m)).toArray) (results_cell_mid (p := 2) (ty := 37) rfl _ _ (w.heap.size + 1) 0 (ML (selA A m 10) (onlyM m)) _ rfl (World.rangeAt_setCells_same _ _ _ _ hrt) Tryz.underlying37 rfl (infoML _ _)) rfl ⟨rfl, below_setCells _ _ (HB2.out.trans (HBW.out.mono (by rw [HZ2.out]; omega))) (Nat.le_succ _)⟩
theorem MsgR.only {w : World} {A : MA} {m : MsgD} (h : MsgR w A m) : MsgR w (selA A m 10) (onlyM m) := by
  rw [← onlyK_10]
  unfold onlyK selA
  refine ⟨?_, ?_, ?_, ?_, ?_⟩
  · simp only
    cases inC m 10
    · exact ⟨.inl rfl, Nat.zero_le _, (fun b hb => by simp [zeroC] at hb), viewR_zero w⟩
    · exact h.c
  · simp only
    cases inV m 10
    · exact viewR_zero w
    · exact h.v
  · simp only
    cases inY m 10
    · exact .inl rfl
    · exact h.yr
  · simp only
    cases inY m 10
    · intro b hb; simp at hb
    · exact h.yb
  · simp only
    cases inY m 10
    · exact Nat.zero_le _
    · exact h.yl
end Go.Proofs.YtppapeoainafbaaGreatDoor


