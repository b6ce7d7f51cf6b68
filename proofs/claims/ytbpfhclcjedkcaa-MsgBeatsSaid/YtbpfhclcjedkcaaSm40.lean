/- Parts of the proof: X75 X75c X67. -/
import Derived.Test.YtbpfhclcjedkcaaSm39
import Derived.Test.YtbpfhclcjedkcaaSm6
import Derived.Test.YtbpfhclcjedkcaaX49
import Derived.Test.YtbpfhclcjedkcaaX65
import Derived.Test.YtbpfhclcjedkcaaX66
namespace Go.Proofs.Ytbpfhclcjedkcaa
open Go.RowKit
/-! ### a message that is read, field by field -/
/-- the message's rows lie in blocks of the call's own -/
structure MsgO (w : World) (base : Nat) (A : MA) (m : MsgD) : Prop where
  cd : OwnB w base (.slice A.da m.c.data.length A.dc) m.c.data
  cm : OwnP w base (.slice A.am m.c.v.ms.length A.cm) m.c.v.ms
  cl : OwnLL w base (.slice A.al m.c.v.ls.length A.cl) m.c.v.ls
  cs : OwnP w base (.slice A.ad m.c.v.ds.length A.cd) m.c.v.ds
  vm : OwnP w base (.slice A.vm m.v.ms.length A.em) m.v.ms
  vl : OwnLL w base (.slice A.vl m.v.ls.length A.el) m.v.ls
  vs : OwnP w base (.slice A.vd m.v.ds.length A.ed) m.v.ds
  y : OwnB w base (.slice A.ya m.y.length A.yc) m.y
theorem MsgO.mutT {G : Nat → Prop} {w w' : World} {base : Nat} {A : MA} {m : MsgD} (h : MsgO w base A m) (hm : Mut G w w') (hG : ∀ k, G k → k < base) : MsgO w' base A m :=
  ⟨h.cd.mutT hm hG, h.cm.mutT hm hG, h.cl.mutT hm hG, h.cs.mutT hm hG, h.vm.mutT hm hG, h.vl.mutT hm hG, h.vs.mutT hm hG, h.y.mutT hm hG⟩
theorem MsgO.ext {w w' : World} {base : Nat} {A : MA} {m : MsgD} (h : MsgO w base A m) (hb : Below w.heap.size w w') : MsgO w' base A m := h.mutT (G := fun _ => False) (Mut.of_below hb) (fun _ e => e.elim)
theorem MsgO.zero (w : World) (base : Nat) {m : MsgD} (hc : m.c = zeroC) (hv : m.v = zeroV) (hy : m.y = []) : MsgO w base zeroA m := by
  refine ⟨?_, ?_, ?_, ?_, ?_, ?_, ?_, ?_⟩
  · rw [hc]; exact OwnB.nil _ _
  · rw [hc]; exact OwnP.nil _ _
  · rw [hc]; exact OwnLL.nil _ _
  · rw [hc]; exact OwnP.nil _ _
  · rw [hv]; exact OwnP.nil _ _
  · rw [hv]; exact OwnLL.nil _ _
  · rw [hv]; exact OwnP.nil _ _
  · rw [hy]; exact OwnB.nil _ _
theorem MsgO.mono {w : World} {b b' : Nat} {A : MA} {m : MsgD} (h : MsgO w b A m) (hb : b' ≤ b) : MsgO w b' A m :=
  ⟨h.cd.mono hb, h.cm.mono2 hb, h.cl.mono hb, h.cs.mono2 hb, h.vm.mono2 hb, h.vl.mono hb, h.vs.mono2 hb, h.y.mono hb⟩
/-- what is known of a message that was read -/
structure ViewOk (V : View) : Prop where
  b : (∀ p ∈ V.ms, okP p) ∧ V.ms.length ≤ 24 ∧ V.ls.length ≤ 24 ∧ (∀ l ∈ V.ls, l.length ≤ 24) ∧ V.ds.length ≤ 24
structure DecOk (m : MsgD) : Prop where
  who : okP m.who
  b : m.b.1 < 4294967296 ∧ okP m.b.2
  a : m.a.1 < 4294967296 ∧ okP m.a.2
  cd : m.c.data.length ≤ 200 ∧ ∀ b ∈ m.c.data, b < 256
  fr : okP m.c.fr
  cv : ViewOk m.c.v
  v : ViewOk m.v
  y : m.y.length ≤ 200 ∧ ∀ b ∈ m.y, b < 256
theorem okP0 : okP (0, 0) := by unfold okP; decide
theorem ViewOk.zero : ViewOk zeroV := ⟨by simp [zeroV]⟩
theorem DecOk.zero {k : Int} : DecOk { zeroM with kind := k } := ⟨okP0, ⟨by show (0 : Nat) < 4294967296; decide, okP0⟩, ⟨by show (0 : Nat) < 4294967296; decide, okP0⟩, by simp [zeroM, zeroC], okP0, ViewOk.zero, ViewOk.zero, by simp [zeroM]⟩
theorem viewOk_lens {V : View} (h : ViewOk V) : lens V.ls ≤ 549755813888 := by
  have h1 := lens_le (n := 24) h.b.2.2.2.1
  have : lens V.ls ≤ 24 * 24 := Nat.le_trans h1 (Nat.mul_le_mul_right _ h.b.2.2.1)
  omega
theorem ownView {w : World} {b1 b2 b3 : Nat} {am al ad : Option Addr} {cm cl cd : Nat} {V : View} (hm : OwnP w b1 (.slice am V.ms.length cm) V.ms) (hl : OwnLL w b2 (.slice al V.ls.length cl) V.ls) (hs : OwnP w b3 (.slice ad V.ds.length cd) V.ds) (hb : ViewOk V) : ViewR w am al ad V := by
  obtain ⟨a1, c1, e1, r1, -⟩ := hm.row
  obtain ⟨a2, c2, e2, r2⟩ := hl.row
  obtain ⟨a3, c3, e3, r3, -⟩ := hs.row
  cases e1; cases e2; cases e3
  have h := hb.b
  exact ⟨r1, r2, r3, by omega, by omega, by omega, fun l hl => by have := h.2.2.2.1 l hl; omega⟩
theorem MsgO.r {w : World} {base : Nat} {A : MA} {m : MsgD} (h : MsgO w base A m) (hk : DecOk m) : MsgR w A m := by
  obtain ⟨a0, c0, e0, r0, -⟩ := h.cd.row
  obtain ⟨a4, c4, e4, r4, -⟩ := h.y.row
  cases e0; cases e4
  exact ⟨⟨r0, by have := hk.cd.1; omega, hk.cd.2, ownView h.cm h.cl h.cs hk.cv⟩, ownView h.vm h.vl h.vs hk.v, r4, hk.y.2, by have := hk.y.1; omega⟩
theorem DecOk.s {m : MsgD} (hk : DecOk m) : MsgS m := ⟨viewOk_lens hk.cv, viewOk_lens hk.v, hk.cv.b.1, hk.v.b.1, hk.fr, hk.who, hk.b.2, hk.a.2⟩
/-! the readers' bounds -/
theorem rView_ok (S : RS) : ViewOk (rView S).1 := ⟨rView_bounds⟩
theorem rCmdParts_fr (S : RS) : okP (rCmdParts S).1.fr := by
  unfold rCmdParts
  simp only
  split
  · exact rPid_ok _
  · split <;> exact okP0
theorem rCmd_fr (S : RS) : okP (rCmd S).1.fr := by
  unfold rCmd
  split
  · exact okP0
  · split
    · exact okP0
    · exact rCmdParts_fr S
theorem rBal_okB (S : RS) : (rBal S).1.1 < 4294967296 ∧ okP (rBal S).1.2 := by
  rw [rBal_all]
  simp only
  split
  · exact ⟨by have := rNum_le (most := 4294967295) (S := S); simp only; omega, rPid_ok _⟩
  · exact ⟨by decide, okP0⟩
theorem rCmdOk {S : RS} (hb : ∀ b ∈ S.b, b < 256) : ((rCmd S).1.data.length ≤ 200 ∧ ∀ b ∈ (rCmd S).1.data, b < 256) ∧ okP (rCmd S).1.fr ∧ ViewOk (rCmd S).1.v := by
  have h := rCmd_data (S := S) (A := (rCmd S).1) (S9 := (rCmd S).2) rfl
  exact ⟨⟨h.1, fun b hbm => hb b (h.2 b hbm)⟩, rCmd_fr S, ⟨rCmd_view⟩⟩
/-- bytes that are left were there -/
theorem rBytesOk {S : RS} (hb : ∀ b ∈ S.b, b < 256) : (rBytes 200 S).1.length ≤ 200 ∧ ∀ b ∈ (rBytes 200 S).1, b < 256 := by
  have h := rBytes_sub (most := 200) (S := S)
  exact ⟨h.1, fun b hbm => hb b (h.2 b hbm)⟩
theorem DecOk.fld {m : MsgD} {S : RS} (h : DecOk m) {i : Nat} (hb : ∀ b ∈ S.b, b < 256) (hb2 : i = 6 → ∀ b ∈ (rBal (rTruth S).2).2.b, b < 256) : DecOk (rFld i (m, S)).1 := by
  obtain ⟨h1, h2, h3, h4, h5, h6, h7, h8⟩ := h
  unfold rFld
  by_cases e0 : i = 0
  · subst e0; exact ⟨rPid_ok _, h2, h3, h4, h5, h6, h7, h8⟩
  by_cases e1 : i = 1
  · subst e1; exact ⟨h1, h2, h3, h4, h5, h6, h7, h8⟩
  by_cases e2 : i = 2
  · subst e2; exact ⟨h1, h2, h3, h4, h5, h6, h7, h8⟩
  by_cases e3 : i = 3
  · subst e3; exact ⟨h1, rBal_okB _, h3, h4, h5, h6, h7, h8⟩
  by_cases e4 : i = 4
  · subst e4; exact ⟨h1, h2, h3, h4, h5, h6, h7, h8⟩
  by_cases e5 : i = 5
  · subst e5; exact ⟨h1, h2, h3, h4, h5, h6, h7, h8⟩
  by_cases e6 : i = 6
  · subst e6
    rw [if_neg e0, if_neg e1, if_neg e2, if_neg e3, if_neg e4, if_neg e5, if_pos rfl]
    simp only
    cases ht : (rTruth S).1
    · rw [if_neg (by simp)]; exact ⟨h1, h2, h3, h4, h5, h6, h7, h8⟩
    · rw [if_pos rfl]
      have hc := rCmdOk (S := (rBal (rTruth S).2).2) (hb2 rfl)
      exact ⟨h1, h2, rBal_okB _, hc.1, hc.2.1, hc.2.2, h7, h8⟩
  by_cases e7 : i = 7
  · subst e7
    have hc := rCmdOk hb
    exact ⟨h1, h2, h3, hc.1, hc.2.1, hc.2.2, h7, h8⟩
  by_cases e8 : i = 8
  · subst e8; exact ⟨h1, h2, h3, h4, h5, h6, rView_ok _, h8⟩
  rw [if_neg e0, if_neg e1, if_neg e2, if_neg e3, if_neg e4, if_neg e5, if_neg e6, if_neg e7, if_neg e8]
  exact ⟨h1, h2, h3, h4, h5, h6, h7, rBytesOk hb⟩
/-- the first fields are read -/
def decK (K : Int) (x : MsgD × RS) (j : Nat) : MsgD × RS := (List.range j).foldl (fun x i => if hb K i then rFld i x else x) x
theorem decK_succ (K : Int) (x : MsgD × RS) (j : Nat) : decK K x (j + 1) = if hb K j then rFld j (decK K x j) else decK K x j := by
  unfold decK; rw [List.range_succ, List.foldl_append]; rfl
theorem decK_10 (K : Int) (x : MsgD × RS) : decK K x 10 = (ltrs K).foldl (fun x i => rFld i x) x := by
  unfold decK
  have h : ∀ i, i < 10 → hb K i = (ltrs K).contains i := fun i hi => hb_ltrs K hi
  have l0 := h 0 (by decide); have l1 := h 1 (by decide); have l2 := h 2 (by decide); have l3 := h 3 (by decide); have l4 := h 4 (by decide); have l5 := h 5 (by decide); have l6 := h 6 (by decide); have l7 := h 7 (by decide); have l8 := h 8 (by decide); have l9 := h 9 (by decide)
  have hr : List.range 10 = [0, 1, 2, 3, 4, 5, 6, 7, 8, 9] := by decide
  rw [hr]
  simp only [List.foldl_cons, List.foldl_nil, l0, l1, l2, l3, l4, l5, l6, l7, l8, l9]
  clear l0 l1 l2 l3 l4 l5 l6 l7 l8 l9 h
  have hl : ltrs K ∈ [[], [0, 1, 4, 5, 9], [2, 5, 7], [2], [2, 3], [2, 3, 6], [2, 3, 7], [1, 5], [0, 1, 4, 5], [0, 5], [2, 8, 9], [1]] := by
    rcases kinds K with e | e | e | e | e | e | e | e | e | e | e | e | e | e | ⟨-, -, e⟩
    all_goals first
      | (rw [e]; decide)
  generalize ltrs K = l at hl
  simp only [List.mem_cons, List.not_mem_nil, or_false] at hl
  rcases hl with rfl | rfl | rfl | rfl | rfl | rfl | rfl | rfl | rfl | rfl | rfl | rfl <;> simp
theorem stop5_any {s c : Nat} {a : Option Addr} {S : RS} {w : World} (h : RdIs w s a c S) :
    Calls Try.prog 125 #[.pointer (some ⟨s, 0, none⟩), .int .i64 5] w fun e w' => e = .returned (.tuple #[]) ∧ RdIs w' s a c (stop5 S) ∧ Mut (fun k => k = s) w w' := by
  have CF := hid (fail_any 5 h)
  have HE : Hid (failS S 5 = stop5 S) := hid rfl
  clear h
  go_enter Try.func125, Try.ntmps125
  go_wp2_with fail
  refine CF.out.mono ?_
  rintro e w1 ⟨rfl, hR1, hM1⟩
  rw [HE.out] at hR1
  have HR1 := hid hR1
  have HM1 := hid hM1
  clear hR1 hM1 CF
  go_wp2
  exact bodyPost_end (results_none rfl _ _ _) rfl ⟨rfl, HR1.out, HM1.out⟩
theorem results_cell_tmp {P : Program} {fn : Func} {p q : Tmp} {ty : TypeId} (h : fn.results = #[.cell p ty, .tmp q]) (tmps : Array Value) (w : World) (b o : Nat) (cs : List Value) (d : TypeDesc)
    (hp : tmps.getD p undef = .pointer (some ⟨b, o, none⟩)) (hc : w.rangeAt b o cs)
    (hu : P.underlying ty = some d) (hd : d.isRow = true) (hi : (P.info? ty).map (·.size) = some cs.length) :
    (results fn tmps).run P w = .ok (.tuple #[.agg cs.toArray, tmps.getD q undef]) w := by
  have hp' : tmps[p]?.getD undef = .pointer (some ⟨b, o, none⟩) := by simpa using hp
  simp [results, h, hp', asAddr, run_loadVar_mid w b o ty cs d hc hu hd hi]
theorem mut_setCells {q : Nat} : ∀ (vs : List Value) (o : Nat) (w : World), Mut (fun k => k = q) w (w.setCells q o vs)
  | [], _, _w => Mut.refl _ _
  | v :: vs, o, w => (mut1 (w := w) (s := q) (i := o) (v := v)).trans (mut_setCells vs (o + 1) _)
end Go.Proofs.Ytbpfhclcjedkcaa

namespace Go.Proofs.Ytbpfhclcjedkcaa
open Go.RowKit
/-! ### what an arm of Decode leaves -/
theorem rBal_byt {S : RS} (h : ∀ b ∈ S.b, b < 256) : ∀ b ∈ (rBal S).2.b, b < 256 := by
  rw [rBal_all]
  simp only
  split
  · exact fun b hb => h b (rNum_sub b (rPid_sub b hb))
  · exact h
/-- the number's reader, by its answer -/
theorem rNumP_is {s c most x : Nat} {z : Int} {a : Option Addr} {S S1 : RS} {w : World} (hz : z = (most : Int)) (hx : Hid (rNum most S = (x, S1))) (hR : RdIs w s a c S) (hm : most < 18446744073709551616) :
    Calls Try.prog 115 #[.pointer (some ⟨s, 0, none⟩), .int .u64 z] w fun e w' => e = .returned (.int .u64 x) ∧ (∃ a' c', RdIs w' s a' c' S1) ∧ Mut (fun k => k = s) w w' := by
  subst hz
  have := rNum_any most hm hR
  rw [hx.out] at this; exact this
theorem viewGetP_is {s c : Nat} {a : Option Addr} {S S1 : RS} {V : View} {w : World} (hx : Hid (rView S = (V, S1))) (hR : RdIs w s a c S) :
    Calls Try.prog 130 #[.pointer (some ⟨s, 0, none⟩)] w fun e w' => ∃ vm vl vd, e = .returned (.agg #[.int .u64 V.id, vm, vl, vd]) ∧ OwnP w' w.heap.size vm V.ms ∧ OwnLL w' w.heap.size vl V.ls ∧ OwnP w' w.heap.size vd V.ds ∧ (∃ a' c', RdIs w' s a' c' S1) ∧ Mut (fun k => k = s) w w' := by
  have := viewGet_any hR
  rw [hx.out] at this; exact this
theorem rBytesP_is {s c : Nat} {a : Option Addr} {S S1 : RS} {L : List Nat} {w : World} (hx : Hid (rBytes 200 S = (L, S1))) (hR : RdIs w s a c S) :
    Calls Try.prog 131 #[.pointer (some ⟨s, 0, none⟩), .int .i64 200] w fun e w' => (∃ v, e = .returned v ∧ OwnB w' w.heap.size v L) ∧ (∃ a' c', RdIs w' s a' c' S1) ∧ Mut (fun k => k = s) w w' := by
  have := rBytes_any 200 (by decide) hR
  rw [hx.out] at this; exact this
theorem MsgO.has {w : World} {base : Nat} {A : MA} {m : MsgD} {t : Bool} (h : MsgO w base A m) : MsgO w base A { m with has := t } := ⟨h.cd, h.cm, h.cl, h.cs, h.vm, h.vl, h.vs, h.y⟩
theorem MsgO.aa {w : World} {base : Nat} {A : MA} {m : MsgD} {b : Bal} (h : MsgO w base A m) : MsgO w base A { m with a := b } := ⟨h.cd, h.cm, h.cl, h.cs, h.vm, h.vl, h.vs, h.y⟩
/-- the state while a message is read -/
def DecSt (W0 : World) (q s : Nat) (x : MsgD × RS) (w : World) : Prop := ∃ (A : MA) (a : Option Addr) (c : Nat), OutL w q (ML A x.1) ∧ MsgO w (q + 1) A x.1 ∧ RdIs w s a c x.2 ∧ Mut (fun k => k = s ∨ k = q) W0 w ∧ DecOk x.1
theorem ownZ (w : World) : OutL (w.alloc (.cells #[.int .i64 0, .int .u16 0, .int .u32 0, .int .u64 0, .int .u64 0, .int .u64 0, .int .i64 0, .int .u32 0, .int .u16 0, .int .u32 0, .int .u32 0, .int .u16 0, .int .u32 0, .bool false, .int .i64 0, .int .u16 0, .int .u32 0, .int .u64 0, .int .u64 0, .slice none 0 0, .int .u64 0, .slice none 0 0, .slice none 0 0, .slice none 0 0, .int .u64 0, .slice none 0 0, .slice none 0 0, .slice none 0 0, .slice none 0 0] 46)) w.heap.size (ML zeroA zeroM) := by
  have h : ML zeroA zeroM = [.int .i64 0, .int .u16 0, .int .u32 0, .int .u64 0, .int .u64 0, .int .u64 0, .int .i64 0, .int .u32 0, .int .u16 0, .int .u32 0, .int .u32 0, .int .u16 0, .int .u32 0, .bool false, .int .i64 0, .int .u16 0, .int .u32 0, .int .u64 0, .int .u64 0, .slice none 0 0, .int .u64 0, .slice none 0 0, .slice none 0 0, .slice none 0 0, .int .u64 0, .slice none 0 0, .slice none 0 0, .slice none 0 0, .slice none 0 0] := by simp [ML, headL, cmdV, cmdL, viewC, zeroA, zeroM, zeroBal, zeroC, zeroV]
  rw [h]
  exact OutL.made _ _ _
theorem setsZ (m : MsgD) (A : MA) : setsL (ML zeroA zeroM) 0 (ML A m) = ML A m := by
  simp [setsL, ML, headL, cmdV, cmdL, viewC]
/-- what an arm leaves, put together -/
theorem MsgO.of {w : World} {b : Nat} {A : MA} {m m' : MsgD} (h : MsgO w b A m) (hc : m'.c = m.c) (hv : m'.v = m.v) (hy : m'.y = m.y) : MsgO w b A m' :=
  ⟨hc ▸ h.cd, hc ▸ h.cm, hc ▸ h.cl, hc ▸ h.cs, hv ▸ h.vm, hv ▸ h.vl, hv ▸ h.vs, hy ▸ h.y⟩
theorem DecSt.fin {W0 w5 w6 : World} {q s c : Nat} {a : Option Addr} {A : MA} {y : MsgD} {S : RS} (hsq : s < q) (ho : OutL w6 q (ML A y)) (hmo : MsgO w5 (q + 1) A y) (hR : RdIs w5 s a c S) (hm : Mut (fun k => k = s ∨ k = q) W0 w5) (hmu : Mut (fun k => k = q) w5 w6) (hk : DecOk y) : DecSt W0 q s (y, S) w6 :=
  ⟨A, a, c, ho, hmo.mutT hmu (fun k e => by have e : k = q := e; omega), hR.mutT hmu (fun k e => by have e : k = q := e; omega), hm.trans (hmu.mono (fun k _ e => .inr e)), hk⟩
theorem fin0 {W0 w5 : World} {q s c : Nat} {a : Option Addr} {A : MA} {m : MsgD} {S1 : RS} {px py : Int} (hsq : s < q) (h : OutL w5 q (ML A m)) (hmo : MsgO w5 (q + 1) A m) (hR : RdIs w5 s a c S1) (hm : Mut (fun k => k = s ∨ k = q) W0 w5) (hk : DecOk { m with who := (px, py) }) : DecSt W0 q s ({ m with who := (px, py) }, S1) ((w5.setCell ⟨q, 1, none⟩ (.int .u16 px)).setCell ⟨q, 2, none⟩ (.int .u32 py)) := by
  have h9 := ((h).set (j := 1) (by simp only [ML_len]; decide) (.int .u16 px)).set (j := 2) (by simp only [List.length_set, ML_len]; decide) (.int .u32 py)
  have e : ((ML A m).set 1 (.int .u16 px)).set 2 (.int .u32 py) = ML A { m with who := (px, py) } := by simp [ML, headL, cmdV, cmdL, viewC]
  rw [e] at h9
  exact DecSt.fin hsq h9 (hmo.of rfl rfl rfl) hR hm ((mut1).trans mut1) hk
theorem fin1 {W0 w5 : World} {q s c : Nat} {a : Option Addr} {A : MA} {m : MsgD} {S1 : RS} {x : Nat} (hsq : s < q) (h : OutL w5 q (ML A m)) (hmo : MsgO w5 (q + 1) A m) (hR : RdIs w5 s a c S1) (hm : Mut (fun k => k = s ∨ k = q) W0 w5) (hk : DecOk { m with vw := x }) : DecSt W0 q s ({ m with vw := x }, S1) (w5.setCell ⟨q, 3, none⟩ (.int .u64 x)) := by
  have h9 := (h).set (j := 3) (by simp only [ML_len]; decide) (.int .u64 x)
  have e : (ML A m).set 3 (.int .u64 x) = ML A { m with vw := x } := by simp [ML, headL, cmdV, cmdL, viewC]
  rw [e] at h9
  exact DecSt.fin hsq h9 (hmo.of rfl rfl rfl) hR hm (mut1) hk
theorem fin2 {W0 w5 : World} {q s c : Nat} {a : Option Addr} {A : MA} {m : MsgD} {S1 : RS} {x : Nat} (hsq : s < q) (h : OutL w5 q (ML A m)) (hmo : MsgO w5 (q + 1) A m) (hR : RdIs w5 s a c S1) (hm : Mut (fun k => k = s ∨ k = q) W0 w5) (hk : DecOk { m with sl := x }) : DecSt W0 q s ({ m with sl := x }, S1) (w5.setCell ⟨q, 4, none⟩ (.int .u64 x)) := by
  have h9 := (h).set (j := 4) (by simp only [ML_len]; decide) (.int .u64 x)
  have e : (ML A m).set 4 (.int .u64 x) = ML A { m with sl := x } := by simp [ML, headL, cmdV, cmdL, viewC]
  rw [e] at h9
  exact DecSt.fin hsq h9 (hmo.of rfl rfl rfl) hR hm (mut1) hk
theorem fin4 {W0 w5 : World} {q s c : Nat} {a : Option Addr} {A : MA} {m : MsgD} {S1 : RS} {x : Nat} (hsq : s < q) (h : OutL w5 q (ML A m)) (hmo : MsgO w5 (q + 1) A m) (hR : RdIs w5 s a c S1) (hm : Mut (fun k => k = s ∨ k = q) W0 w5) (hk : DecOk { m with num := x }) : DecSt W0 q s ({ m with num := x }, S1) (w5.setCell ⟨q, 5, none⟩ (.int .u64 x)) := by
  have h9 := (h).set (j := 5) (by simp only [ML_len]; decide) (.int .u64 x)
  have e : (ML A m).set 5 (.int .u64 x) = ML A { m with num := x } := by simp [ML, headL, cmdV, cmdL, viewC]
  rw [e] at h9
  exact DecSt.fin hsq h9 (hmo.of rfl rfl rfl) hR hm (mut1) hk
theorem fin5 {W0 w5 : World} {q s c : Nat} {a : Option Addr} {A : MA} {m : MsgD} {S1 : RS} {x : Nat} (hsq : s < q) (h : OutL w5 q (ML A m)) (hmo : MsgO w5 (q + 1) A m) (hR : RdIs w5 s a c S1) (hm : Mut (fun k => k = s ∨ k = q) W0 w5) (hk : DecOk { m with hops := (x : Int) }) : DecSt W0 q s ({ m with hops := (x : Int) }, S1) (w5.setCell ⟨q, 6, none⟩ (.int .i64 x)) := by
  have h9 := (h).set (j := 6) (by simp only [ML_len]; decide) (.int .i64 x)
  have e : (ML A m).set 6 (.int .i64 x) = ML A { m with hops := (x : Int) } := by simp [ML, headL, cmdV, cmdL, viewC]
  rw [e] at h9
  exact DecSt.fin hsq h9 (hmo.of rfl rfl rfl) hR hm (mut1) hk
theorem fin3 {W0 w5 : World} {q s c : Nat} {a : Option Addr} {A : MA} {m : MsgD} {S1 : RS} {bb : Bal} (hsq : s < q) (h : OutL w5 q (ML A m)) (hmo : MsgO w5 (q + 1) A m) (hR : RdIs w5 s a c S1) (hm : Mut (fun k => k = s ∨ k = q) W0 w5) (hk : DecOk { m with b := bb }) : DecSt W0 q s ({ m with b := bb }, S1) (((w5.setCell ⟨q, 7, none⟩ (.int .u32 bb.1)).setCell ⟨q, 8, none⟩ (.int .u16 bb.2.1)).setCell ⟨q, 9, none⟩ (.int .u32 bb.2.2)) := by
  have h9 := (((h).set (j := 7) (by simp only [ML_len]; decide) (.int .u32 bb.1)).set (j := 8) (by simp only [List.length_set, ML_len]; decide) (.int .u16 bb.2.1)).set (j := 9) (by simp only [List.length_set, ML_len]; decide) (.int .u32 bb.2.2)
  have e : (((ML A m).set 7 (.int .u32 bb.1)).set 8 (.int .u16 bb.2.1)).set 9 (.int .u32 bb.2.2) = ML A { m with b := bb } := by simp [ML, headL, cmdV, cmdL, viewC]
  rw [e] at h9
  exact DecSt.fin hsq h9 (hmo.of rfl rfl rfl) hR hm (((mut1).trans mut1).trans mut1) hk
theorem fin6f {W0 w5 : World} {q s c : Nat} {a : Option Addr} {A : MA} {m : MsgD} {S1 : RS}  (hsq : s < q) (h : OutL w5 q (ML A m)) (hmo : MsgO w5 (q + 1) A m) (hR : RdIs w5 s a c S1) (hm : Mut (fun k => k = s ∨ k = q) W0 w5) (hk : DecOk { m with has := false }) : DecSt W0 q s ({ m with has := false }, S1) (w5.setCell ⟨q, 13, none⟩ (.bool false)) := by
  have h9 := (h).set (j := 13) (by simp only [ML_len]; decide) (.bool false)
  have e : (ML A m).set 13 (.bool false) = ML A { m with has := false } := by simp [ML, headL, cmdV, cmdL, viewC]
  rw [e] at h9
  exact DecSt.fin hsq h9 (hmo.of rfl rfl rfl) hR hm (mut1) hk
theorem fin6t {W0 w5 : World} {q s c : Nat} {a : Option Addr} {A : MA} {m : MsgD} {S1 : RS} {bb : Bal} {cc : CmdD} {qd qm ql qs : Option Addr} {kd km kl ks : Nat} (hsq : s < q) (h : OutL w5 q (ML A { m with has := true, a := bb })) (hmo : MsgO w5 (q + 1) { A with da := qd, dc := kd, am := qm, cm := km, al := ql, cl := kl, ad := qs, cd := ks } { m with has := true, a := bb, c := cc }) (hR : RdIs w5 s a c S1) (hm : Mut (fun k => k = s ∨ k = q) W0 w5) (hk : DecOk { m with has := true, a := bb, c := cc }) : DecSt W0 q s ({ m with has := true, a := bb, c := cc }, S1) (w5.setCells q 14 (cmdV { A with da := qd, dc := kd, am := qm, cm := km, al := ql, cl := kl, ad := qs, cd := ks } cc).toList) := by
  have h9 := h.sets (vs := (cmdV { A with da := qd, dc := kd, am := qm, cm := km, al := ql, cl := kl, ad := qs, cd := ks } cc).toList) (o := 14) (by rw [ML_len]; simp [cmdV, cmdL])
  have e : setsL (ML A { m with has := true, a := bb }) 14 (cmdV { A with da := qd, dc := kd, am := qm, cm := km, al := ql, cl := kl, ad := qs, cd := ks } cc).toList = ML { A with da := qd, dc := kd, am := qm, cm := km, al := ql, cl := kl, ad := qs, cd := ks } { m with has := true, a := bb, c := cc } := by simp [setsL, ML, headL, cmdV, cmdL, viewC]
  rw [e] at h9
  exact DecSt.fin hsq h9 hmo hR hm (mut_setCells _ _ _) hk
theorem fin7 {W0 w5 : World} {q s c : Nat} {a : Option Addr} {A : MA} {m : MsgD} {S1 : RS} {cc : CmdD} {qd qm ql qs : Option Addr} {kd km kl ks : Nat} (hsq : s < q) (h : OutL w5 q (ML A m)) (hmo : MsgO w5 (q + 1) { A with da := qd, dc := kd, am := qm, cm := km, al := ql, cl := kl, ad := qs, cd := ks } { m with c := cc }) (hR : RdIs w5 s a c S1) (hm : Mut (fun k => k = s ∨ k = q) W0 w5) (hk : DecOk { m with c := cc }) : DecSt W0 q s ({ m with c := cc }, S1) (w5.setCells q 14 (cmdV { A with da := qd, dc := kd, am := qm, cm := km, al := ql, cl := kl, ad := qs, cd := ks } cc).toList) := by
  have h9 := h.sets (vs := (cmdV { A with da := qd, dc := kd, am := qm, cm := km, al := ql, cl := kl, ad := qs, cd := ks } cc).toList) (o := 14) (by rw [ML_len]; simp [cmdV, cmdL])
  have e : setsL (ML A m) 14 (cmdV { A with da := qd, dc := kd, am := qm, cm := km, al := ql, cl := kl, ad := qs, cd := ks } cc).toList = ML { A with da := qd, dc := kd, am := qm, cm := km, al := ql, cl := kl, ad := qs, cd := ks } { m with c := cc } := by simp [setsL, ML, headL, cmdV, cmdL, viewC]
  rw [e] at h9
  exact DecSt.fin hsq h9 hmo hR hm (mut_setCells _ _ _) hk
theorem fin8 {W0 w5 : World} {q s c : Nat} {a : Option Addr} {A : MA} {m : MsgD} {S1 : RS} {V : View} {qm ql qs : Option Addr} {km kl ks : Nat} (hsq : s < q) (h : OutL w5 q (ML A m)) (hmo : MsgO w5 (q + 1) { A with vm := qm, em := km, vl := ql, el := kl, vd := qs, ed := ks } { m with v := V }) (hR : RdIs w5 s a c S1) (hm : Mut (fun k => k = s ∨ k = q) W0 w5) (hk : DecOk { m with v := V }) : DecSt W0 q s ({ m with v := V }, S1) ((((w5.setCell ⟨q, 24, none⟩ (.int .u64 V.id)).setCell ⟨q, 25, none⟩ (.slice qm V.ms.length km)).setCell ⟨q, 26, none⟩ (.slice ql V.ls.length kl)).setCell ⟨q, 27, none⟩ (.slice qs V.ds.length ks)) := by
  have h9 := ((((h).set (j := 24) (by simp only [ML_len]; decide) (.int .u64 V.id)).set (j := 25) (by simp only [List.length_set, ML_len]; decide) (.slice qm V.ms.length km)).set (j := 26) (by simp only [List.length_set, ML_len]; decide) (.slice ql V.ls.length kl)).set (j := 27) (by simp only [List.length_set, ML_len]; decide) (.slice qs V.ds.length ks)
  have e : ((((ML A m).set 24 (.int .u64 V.id)).set 25 (.slice qm V.ms.length km)).set 26 (.slice ql V.ls.length kl)).set 27 (.slice qs V.ds.length ks) = ML { A with vm := qm, em := km, vl := ql, el := kl, vd := qs, ed := ks } { m with v := V } := by simp [ML, headL, cmdV, cmdL, viewC]
  rw [e] at h9
  exact DecSt.fin hsq h9 hmo hR hm ((((mut1).trans mut1).trans mut1).trans mut1) hk
theorem fin9 {W0 w5 : World} {q s c : Nat} {a : Option Addr} {A : MA} {m : MsgD} {S1 : RS} {y : List Nat} {qy : Option Addr} {ky : Nat} (hsq : s < q) (h : OutL w5 q (ML A m)) (hmo : MsgO w5 (q + 1) { A with ya := qy, yc := ky } { m with y := y }) (hR : RdIs w5 s a c S1) (hm : Mut (fun k => k = s ∨ k = q) W0 w5) (hk : DecOk { m with y := y }) : DecSt W0 q s ({ m with y := y }, S1) (w5.setCell ⟨q, 28, none⟩ (.slice qy y.length ky)) := by
  have h9 := (h).set (j := 28) (by simp only [ML_len]; decide) (.slice qy y.length ky)
  have e : (ML A m).set 28 (.slice qy y.length ky) = ML { A with ya := qy, yc := ky } { m with y := y } := by simp [ML, headL, cmdV, cmdL, viewC]
  rw [e] at h9
  exact DecSt.fin hsq h9 hmo hR hm (mut1) hk
end Go.Proofs.Ytbpfhclcjedkcaa

namespace Go.Proofs.Ytbpfhclcjedkcaa
open Go.RowKit
/-! ### messages: awake -/
def exM1 : MsgD := { zeroM with kind := 3, sl := 5 }
def exM2 : MsgD := { zeroM with kind := 14, vw := 1 }
theorem zeroE {m : MsgD} (hc : m.c = zeroC) (hv : m.v = zeroV) (hy : m.y = []) (hb : m.b = zeroBal) (ha : m.a = zeroBal) (hw : m.who = (0, 0)) (w : World) : MsgE w zeroA m := by
  have ok0 : okP (0, 0) := by unfold okP; decide
  refine ⟨⟨?_, ?_, ?_, ?_, ?_⟩, ⟨?_, ?_, ?_, ?_, ?_, ?_, ?_, ?_⟩, ?_, ?_, ?_, ?_, ?_⟩
  · rw [hc]; exact ⟨.inl rfl, Nat.zero_le _, (fun b hb => by simp [zeroC] at hb), viewR_zero w⟩
  · rw [hv]; exact viewR_zero w
  · rw [hy]; exact .inl rfl
  · rw [hy]; intro b hb; simp at hb
  · rw [hy]; exact Nat.zero_le _
  · rw [hc]; decide
  · rw [hv]; decide
  · rw [hc]; intro p hp; cases hp
  · rw [hv]; intro p hp; cases hp
  · rw [hc]; exact ok0
  · rw [hw]; exact ok0
  · rw [hb]; exact ok0
  · rw [ha]; exact ok0
  · rw [hc]; exact ⟨.inl rfl, (fun b hb => by simp [zeroC] at hb), viewR_zero w, ⟨by decide, (fun p hp => by cases hp), (fun l hl => by cases hl), (fun p hp => by cases hp)⟩, ok0, by decide, by decide⟩
  · rw [hc]; decide
  · rw [hv]; decide
  · rw [hb]; decide
  · rw [ha]; decide
theorem exFm1 : msgChk exM1 = true ∧ msgF exM1 = [3, 5] := by
  refine ⟨by decide, ?_⟩
  show short 3 ++ ([2].flatMap (letF exM1)) = _
  have : letF exM1 2 = short 5 := rfl
  rw [List.flatMap_cons, List.flatMap_nil, this, short_lt (by decide), short_lt (by decide)]; rfl
theorem exF2M : msgChk exM2 = true ∧ msgF exM2 = [14, 1] := by
  refine ⟨by decide, ?_⟩
  show short 14 ++ ([1].flatMap (letF exM2)) = _
  have : letF exM2 1 = short 1 := rfl
  rw [List.flatMap_cons, List.flatMap_nil, this, short_lt (by decide), short_lt (by decide)]; rfl
theorem encX {m : MsgD} {F : List Nat} {n : Nat} (h : msgChk m = true ∧ msgF m = F) (hn : F.length = n) {w : World} (hE : MsgE w zeroA m) : Calls Try.prog 27 #[.agg (ML zeroA m).toArray] w fun e w' => ∃ a c, e = .returned (.tuple #[.slice a n c, .int .i64 0]) ∧ ByteRow w' a F ∧ Below w.heap.size w w' := by
  refine (msgEncode_any hE).mono ?_
  rintro e w' ⟨v, rfl, hown, hb⟩
  rw [h.1, if_pos rfl, h.2] at hown
  obtain ⟨a, c, rfl, hr, -⟩ := hown.row
  rw [hn, h.1]
  exact ⟨a, c, rfl, hr, hb⟩
theorem enc1 (w : World) : Calls Try.prog 27 #[.agg #[.int .i64 3, .int .u16 0, .int .u32 0, .int .u64 0, .int .u64 5, .int .u64 0, .int .i64 0, .int .u32 0, .int .u16 0, .int .u32 0, .int .u32 0, .int .u16 0, .int .u32 0, .bool false, .int .i64 0, .int .u16 0, .int .u32 0, .int .u64 0, .int .u64 0, .slice none 0 0, .int .u64 0, .slice none 0 0, .slice none 0 0, .slice none 0 0, .int .u64 0, .slice none 0 0, .slice none 0 0, .slice none 0 0, .slice none 0 0]] w fun e w' => ∃ a c, e = .returned (.tuple #[.slice a 2 c, .int .i64 0]) ∧ ByteRow w' a [3, 5] ∧ Below w.heap.size w w' := encX (m := exM1) exFm1 rfl (zeroE rfl rfl rfl rfl rfl rfl w)
theorem enc2 (w : World) : Calls Try.prog 27 #[.agg #[.int .i64 14, .int .u16 0, .int .u32 0, .int .u64 1, .int .u64 0, .int .u64 0, .int .i64 0, .int .u32 0, .int .u16 0, .int .u32 0, .int .u32 0, .int .u16 0, .int .u32 0, .bool false, .int .i64 0, .int .u16 0, .int .u32 0, .int .u64 0, .int .u64 0, .slice none 0 0, .int .u64 0, .slice none 0 0, .slice none 0 0, .slice none 0 0, .int .u64 0, .slice none 0 0, .slice none 0 0, .slice none 0 0, .slice none 0 0]] w fun e w' => ∃ a c, e = .returned (.tuple #[.slice a 2 c, .int .i64 0]) ∧ ByteRow w' a [14, 1] ∧ Below w.heap.size w w' := encX (m := exM2) exF2M rfl (zeroE rfl rfl rfl rfl rfl rfl w)
theorem ByteRow.two (w : World) (x y : Nat) : ByteRow (w.alloc (.cells #[.int .u8 x, .int .u8 y] 5)) (some ⟨w.heap.size, 0, none⟩) [x, y] :=
  .inr ⟨w.heap.size, 0, rfl, by simp, fun i hi => by
    simp only [List.length_cons, List.length_nil] at hi
    match i, hi with
    | 0, _ => simp
    | 1, _ => simp⟩
theorem same2 {a b : Option Addr} {ca cb : Nat} {x y : Nat} {w : World} (hx : ByteRow w a [x, y]) (hy : ByteRow w b [x, y]) : Calls Try.prog 30 #[.slice a 2 ca, .slice b 2 cb] w fun e w' => e = .returned (.bool true) ∧ Below w.heap.size w w' :=
  (sameB_is (bm := true) (n := 2) (m := 2) (hid (by simp)) (hid rfl) (hid rfl) (by omega) (by omega) hx hy).mono fun _ _ ⟨h1, h2⟩ => ⟨h1, h2⟩
set_option maxRecDepth 100000 in
set_option maxHeartbeats 3200000 in
theorem awakeM_any (w : World) : Calls Try.prog 26 #[] w fun e w' => e = .returned (.bool true) ∧ Below w.heap.size w w' := by
  have E1 := hid (enc1 w)
  go_enter Try.func26, Try.ntmps26
  go_wp2_with fail
  refine E1.out.mono ?_
  rintro e w1 ⟨a1, c1, rfl, hr1, hb1⟩
  have E2 := hid (enc2 w1)
  have HR1 := hid hr1
  have HB1 := hid hb1
  clear hr1 hb1 E1
  go_wp2_with fail
  refine E2.out.mono ?_
  rintro e w2 ⟨a2, c2, rfl, hr2, hb2⟩
  have hq2 : Below w2.heap.size w2 (w2.alloc (.cells #[.int .u8 3, .int .u8 5] 5)) := (Below.refl _ _).alloc (Nat.le_refl _) _
  have S1 := hid (same2 (ca := c1) (cb := 2) ((HR1.out.ext hb2).ext hq2) (ByteRow.two w2 3 5))
  have HR2 := hid (hr2.ext hq2)
  have HB2 := hid (HB1.out.trans ((hb2.trans (hq2.mono hb2.size)).mono HB1.out.size))
  clear hr2 hb2 hq2 E2 HR1 HB1
  go_wp2_with fail
  (with_reducible refine S1.out.mono ?_)
  rintro e w3 ⟨rfl, hb3⟩
  have hq3 : Below w3.heap.size w3 (w3.alloc (.cells #[.int .u8 14, .int .u8 1] 5)) := (Below.refl _ _).alloc (Nat.le_refl _) _
  have S2 := hid (same2 (ca := c2) (cb := 2) ((HR2.out.ext hb3).ext hq3) (ByteRow.two w3 14 1))
  have HB3 := hid (HB2.out.trans ((hb3.trans (hq3.mono hb3.size)).mono HB2.out.size))
  clear hb3 hq3 S1 HR2 HB2
  go_wp2_with fail
  (with_reducible refine S2.out.mono ?_)
  rintro e w4 ⟨rfl, hb4⟩
  have HB4 := hid (HB3.out.trans (hb4.mono HB3.out.size))
  clear hb4 S2
  go_wp2
  go_ret
  exact ⟨rfl, HB4.out⟩
end Go.Proofs.Ytbpfhclcjedkcaa


