/- Parts of the proof: X62b. -/
import Derived.Test.YtppapeoainafbaaGreatDoorGMsgTexts21
namespace Go.Proofs.YtppapeoainafbaaGreatDoor
open Go.RowKit
set_option maxRecDepth 100000 in
set_option maxHeartbeats 12800000 in
theorem msgSameR_any {A B : MA} {a b : MsgD} {w : World} (hA : MsgR w A a) (hB : MsgR w B b) :
    Calls Tryz.prog 11 #[.agg (ML A a).toArray, .agg (ML B b).toArray] w fun e w' => e = .returned (.bool (sameM a b)) ∧ Below w.heap.size w w' := by
  obtain ⟨W2, hW2⟩ : ∃ W2, (w.alloc (.cells (ML A a).toArray 37)).alloc (.cells (ML B b).toArray 37) = W2 := ⟨_, rfl⟩
  have hB2 : Below w.heap.size w W2 := by rw [← hW2]; exact ((Below.refl _ _).alloc (Nat.le_refl _) _).alloc (by simp) _
  have xA : MsgBox W2 w.heap.size A a := by rw [← hW2]; exact (MsgBox.made A a w _ _).ext ((Below.refl _ _).alloc (Nat.le_refl _) _) (by simp)
  have xB : MsgBox W2 (w.heap.size + 1) B b := by
    rw [← hW2]
    have := MsgBox.made B b (w.alloc (.cells (ML A a).toArray 37)) 37 (0, 0)
    simpa using this
  have hA2 := hA.ext hB2
  have hBb := hB.ext hB2
  have HXA := hid xA
  have HXB := hid xB
  have HA := hid hA2
  have HB := hid hBb
  have HB2 := hid hB2
  have SC : Hid (∀ (r : Bool), sameC a.c b.c = r → ∀ W, Below W2.heap.size W2 W → Calls Tryz.prog 42 #[.agg (cmdV A a.c), .agg (cmdV B b.c)] W fun e w' => e = .returned (.bool r) ∧ Below W2.heap.size W2 w') := hid fun r hr W h => relB h (by
    have := cmdSameR_any (dc := A.dc) (cm := A.cm) (cl := A.cl) (cd := A.cd) (ec := B.dc) (em := B.cm) (el := B.cl) (ed := B.cd) (hA2.c.ext h) (hBb.c.ext h)
    rw [hr] at this; exact this)
  have SV : Hid (∀ (r : Bool), sameB a.v b.v = r → ∀ W, Below W2.heap.size W2 W → Calls Tryz.prog 16 #[.agg #[.int .u64 a.v.id, .slice A.vm a.v.ms.length A.em, .slice A.vl a.v.ls.length A.el, .slice A.vd a.v.ds.length A.ed], .agg #[.int .u64 b.v.id, .slice B.vm b.v.ms.length B.em, .slice B.vl b.v.ls.length B.el, .slice B.vd b.v.ds.length B.ed]] W fun e w' => e = .returned (.bool r) ∧ Below W2.heap.size W2 w') := hid fun r hr W h => relB h (refSame_is (hid hr) (hA2.v.ext h) (hBb.v.ext h))
  have SY : Hid (∀ (r : Bool), decide (a.y = b.y) = r → ∀ W, Below W2.heap.size W2 W → Calls Tryz.prog 22 #[.slice A.ya a.y.length A.yc, .slice B.ya b.y.length B.yc] W fun e w' => e = .returned (.bool r) ∧ Below W2.heap.size W2 w') := hid fun r hr W h => relB h ((sameB_is (hid hr) (hid rfl) (hid rfl) hA2.yl hBb.yl (hA2.yr.ext h) (hBb.yr.ext h)).mono fun _ _ ⟨h1, h2⟩ => ⟨h1, h2⟩)
  have H2 := Below.refl W2.heap.size W2
  have ep := fun w => neq_pid a.who.1 a.who.2 b.who.1 b.who.2 w
  have eb := fun w => eql_bal a.b.1 a.b.2.1 a.b.2.2 b.b.1 b.b.2.1 b.b.2.2 w
  have ea := fun w => eql_bal a.a.1 a.a.2.1 a.a.2.2 b.a.1 b.a.2.1 b.a.2.2 w
  have HEP := hid ep
  have HEB := hid eb
  have HEA := hid ea
  clear hA hB hA2 hBb hB2 xA xB ep eb ea
  cases g0 : decide (a.kind = b.kind)
  case false =>
    have G0 := hid g0
    clear g0
    have a0 : W2.cell? ⟨w.heap.size, 0, none⟩ = some (.int .i64 a.kind) := HXA.out.cell rfl
    have b0 : W2.cell? ⟨w.heap.size + 1, 0, none⟩ = some (.int .i64 b.kind) := HXB.out.cell rfl
    have e0 : (a.kind == b.kind) = false := by have := G0.out; simpa using this
    have d0 : (a.kind != b.kind) = true := by rw [bne, e0]; rfl
    go_enter Tryz.func11, Tryz.ntmps11
    go_wp2
    go_ret
    exact ⟨ret_bool (by unfold sameM; simp only [G0.out]; rfl), HB2.out⟩
  have G0 := hid g0
  clear g0
  cases g1 : decide (a.who = b.who)
  case false =>
    have G1 := hid g1
    clear g1
    have a0 : W2.cell? ⟨w.heap.size, 0, none⟩ = some (.int .i64 a.kind) := HXA.out.cell rfl
    have b0 : W2.cell? ⟨w.heap.size + 1, 0, none⟩ = some (.int .i64 b.kind) := HXB.out.cell rfl
    have e0 : (a.kind == b.kind) = true := by have := G0.out; simpa using this
    have d0 : (a.kind != b.kind) = false := by rw [bne, e0]; rfl
    have a1 : W2.cell? ⟨w.heap.size, 1, none⟩ = some (.int .u16 a.who.1) := HXA.out.cell rfl
    have b1 : W2.cell? ⟨w.heap.size + 1, 1, none⟩ = some (.int .u16 b.who.1) := HXB.out.cell rfl
    have a2 : W2.cell? ⟨w.heap.size, 2, none⟩ = some (.int .u32 a.who.2) := HXA.out.cell rfl
    have b2 : W2.cell? ⟨w.heap.size + 1, 2, none⟩ = some (.int .u32 b.who.2) := HXB.out.cell rfl
    have ep := HEP.out
    simp only [pid_dec a.who b.who false G1.out] at ep
    go_enter Tryz.func11, Tryz.ntmps11
    go_wp2
    go_ret
    exact ⟨ret_bool (by unfold sameM; simp only [G0.out, G1.out]; rfl), HB2.out⟩
  have G1 := hid g1
  clear g1
  cases g2 : decide (a.vw = b.vw)
  case false =>
    have G2 := hid g2
    clear g2
    have a0 : W2.cell? ⟨w.heap.size, 0, none⟩ = some (.int .i64 a.kind) := HXA.out.cell rfl
    have b0 : W2.cell? ⟨w.heap.size + 1, 0, none⟩ = some (.int .i64 b.kind) := HXB.out.cell rfl
    have e0 : (a.kind == b.kind) = true := by have := G0.out; simpa using this
    have d0 : (a.kind != b.kind) = false := by rw [bne, e0]; rfl
    have a1 : W2.cell? ⟨w.heap.size, 1, none⟩ = some (.int .u16 a.who.1) := HXA.out.cell rfl
    have b1 : W2.cell? ⟨w.heap.size + 1, 1, none⟩ = some (.int .u16 b.who.1) := HXB.out.cell rfl
    have a2 : W2.cell? ⟨w.heap.size, 2, none⟩ = some (.int .u32 a.who.2) := HXA.out.cell rfl
    have b2 : W2.cell? ⟨w.heap.size + 1, 2, none⟩ = some (.int .u32 b.who.2) := HXB.out.cell rfl
    have ep := HEP.out
    simp only [pid_dec a.who b.who true G1.out] at ep
    have a3 : W2.cell? ⟨w.heap.size, 3, none⟩ = some (.int .u64 a.vw) := HXA.out.cell rfl
    have b3 : W2.cell? ⟨w.heap.size + 1, 3, none⟩ = some (.int .u64 b.vw) := HXB.out.cell rfl
    have e2 : ((a.vw : Int) == (b.vw : Int)) = false := by have := G2.out; simp only [decide_eq_false_iff_not] at this; rw [beq_eq_false_iff_ne]; omega
    have d2 : ((a.vw : Int) != (b.vw : Int)) = true := by rw [bne, e2]; rfl
    go_enter Tryz.func11, Tryz.ntmps11
    go_wp2
    go_ret
    exact ⟨ret_bool (by unfold sameM; simp only [G0.out, G1.out, G2.out]; rfl), HB2.out⟩
  have G2 := hid g2
  clear g2
  cases g3 : decide (a.sl = b.sl)
  case false =>
    have G3 := hid g3
    clear g3
    have a0 : W2.cell? ⟨w.heap.size, 0, none⟩ = some (.int .i64 a.kind) := HXA.out.cell rfl
    have b0 : W2.cell? ⟨w.heap.size + 1, 0, none⟩ = some (.int .i64 b.kind) := HXB.out.cell rfl
    have e0 : (a.kind == b.kind) = true := by have := G0.out; simpa using this
    have d0 : (a.kind != b.kind) = false := by rw [bne, e0]; rfl
    have a1 : W2.cell? ⟨w.heap.size, 1, none⟩ = some (.int .u16 a.who.1) := HXA.out.cell rfl
    have b1 : W2.cell? ⟨w.heap.size + 1, 1, none⟩ = some (.int .u16 b.who.1) := HXB.out.cell rfl
    have a2 : W2.cell? ⟨w.heap.size, 2, none⟩ = some (.int .u32 a.who.2) := HXA.out.cell rfl
    have b2 : W2.cell? ⟨w.heap.size + 1, 2, none⟩ = some (.int .u32 b.who.2) := HXB.out.cell rfl
    have ep := HEP.out
    simp only [pid_dec a.who b.who true G1.out] at ep
    have a3 : W2.cell? ⟨w.heap.size, 3, none⟩ = some (.int .u64 a.vw) := HXA.out.cell rfl
    have b3 : W2.cell? ⟨w.heap.size + 1, 3, none⟩ = some (.int .u64 b.vw) := HXB.out.cell rfl
    have e2 : ((a.vw : Int) == (b.vw : Int)) = true := by have := G2.out; simp only [decide_eq_true_eq] at this; rw [beq_iff_eq]; omega
    have d2 : ((a.vw : Int) != (b.vw : Int)) = false := by rw [bne, e2]; rfl
    have a4 : W2.cell? ⟨w.heap.size, 4, none⟩ = some (.int .u64 a.sl) := HXA.out.cell rfl
    have b4 : W2.cell? ⟨w.heap.size + 1, 4, none⟩ = some (.int .u64 b.sl) := HXB.out.cell rfl
    have e3 : ((a.sl : Int) == (b.sl : Int)) = false := by have := G3.out; simp only [decide_eq_false_iff_not] at this; rw [beq_eq_false_iff_ne]; omega
    have d3 : ((a.sl : Int) != (b.sl : Int)) = true := by rw [bne, e3]; rfl
    go_enter Tryz.func11, Tryz.ntmps11
    go_wp2
    go_ret
    exact ⟨ret_bool (by unfold sameM; simp only [G0.out, G1.out, G2.out, G3.out]; rfl), HB2.out⟩
  have G3 := hid g3
  clear g3
  cases g4 : decide (a.num = b.num)
  case false =>
    have G4 := hid g4
    clear g4
    have a0 : W2.cell? ⟨w.heap.size, 0, none⟩ = some (.int .i64 a.kind) := HXA.out.cell rfl
    have b0 : W2.cell? ⟨w.heap.size + 1, 0, none⟩ = some (.int .i64 b.kind) := HXB.out.cell rfl
    have e0 : (a.kind == b.kind) = true := by have := G0.out; simpa using this
    have d0 : (a.kind != b.kind) = false := by rw [bne, e0]; rfl
    have a1 : W2.cell? ⟨w.heap.size, 1, none⟩ = some (.int .u16 a.who.1) := HXA.out.cell rfl
    have b1 : W2.cell? ⟨w.heap.size + 1, 1, none⟩ = some (.int .u16 b.who.1) := HXB.out.cell rfl
    have a2 : W2.cell? ⟨w.heap.size, 2, none⟩ = some (.int .u32 a.who.2) := HXA.out.cell rfl
    have b2 : W2.cell? ⟨w.heap.size + 1, 2, none⟩ = some (.int .u32 b.who.2) := HXB.out.cell rfl
    have ep := HEP.out
    simp only [pid_dec a.who b.who true G1.out] at ep
    have a3 : W2.cell? ⟨w.heap.size, 3, none⟩ = some (.int .u64 a.vw) := HXA.out.cell rfl
    have b3 : W2.cell? ⟨w.heap.size + 1, 3, none⟩ = some (.int .u64 b.vw) := HXB.out.cell rfl
    have e2 : ((a.vw : Int) == (b.vw : Int)) = true := by have := G2.out; simp only [decide_eq_true_eq] at this; rw [beq_iff_eq]; omega
    have d2 : ((a.vw : Int) != (b.vw : Int)) = false := by rw [bne, e2]; rfl
    have a4 : W2.cell? ⟨w.heap.size, 4, none⟩ = some (.int .u64 a.sl) := HXA.out.cell rfl
    have b4 : W2.cell? ⟨w.heap.size + 1, 4, none⟩ = some (.int .u64 b.sl) := HXB.out.cell rfl
    have e3 : ((a.sl : Int) == (b.sl : Int)) = true := by have := G3.out; simp only [decide_eq_true_eq] at this; rw [beq_iff_eq]; omega
    have d3 : ((a.sl : Int) != (b.sl : Int)) = false := by rw [bne, e3]; rfl
    have a5 : W2.cell? ⟨w.heap.size, 5, none⟩ = some (.int .u64 a.num) := HXA.out.cell rfl
    have b5 : W2.cell? ⟨w.heap.size + 1, 5, none⟩ = some (.int .u64 b.num) := HXB.out.cell rfl
    have e4 : ((a.num : Int) == (b.num : Int)) = false := by have := G4.out; simp only [decide_eq_false_iff_not] at this; rw [beq_eq_false_iff_ne]; omega
    have d4 : ((a.num : Int) != (b.num : Int)) = true := by rw [bne, e4]; rfl
    go_enter Tryz.func11, Tryz.ntmps11
    go_wp2
    go_ret
    exact ⟨ret_bool (by unfold sameM; simp only [G0.out, G1.out, G2.out, G3.out, G4.out]; rfl), HB2.out⟩
  have G4 := hid g4
  clear g4
  cases g5 : decide (a.hops = b.hops)
  case false =>
    have G5 := hid g5
    clear g5
    have a0 : W2.cell? ⟨w.heap.size, 0, none⟩ = some (.int .i64 a.kind) := HXA.out.cell rfl
    have b0 : W2.cell? ⟨w.heap.size + 1, 0, none⟩ = some (.int .i64 b.kind) := HXB.out.cell rfl
    have e0 : (a.kind == b.kind) = true := by have := G0.out; simpa using this
    have d0 : (a.kind != b.kind) = false := by rw [bne, e0]; rfl
    have a1 : W2.cell? ⟨w.heap.size, 1, none⟩ = some (.int .u16 a.who.1) := HXA.out.cell rfl
    have b1 : W2.cell? ⟨w.heap.size + 1, 1, none⟩ = some (.int .u16 b.who.1) := HXB.out.cell rfl
    have a2 : W2.cell? ⟨w.heap.size, 2, none⟩ = some (.int .u32 a.who.2) := HXA.out.cell rfl
    have b2 : W2.cell? ⟨w.heap.size + 1, 2, none⟩ = some (.int .u32 b.who.2) := HXB.out.cell rfl
    have ep := HEP.out
    simp only [pid_dec a.who b.who true G1.out] at ep
    have a3 : W2.cell? ⟨w.heap.size, 3, none⟩ = some (.int .u64 a.vw) := HXA.out.cell rfl
    have b3 : W2.cell? ⟨w.heap.size + 1, 3, none⟩ = some (.int .u64 b.vw) := HXB.out.cell rfl
    have e2 : ((a.vw : Int) == (b.vw : Int)) = true := by have := G2.out; simp only [decide_eq_true_eq] at this; rw [beq_iff_eq]; omega
    have d2 : ((a.vw : Int) != (b.vw : Int)) = false := by rw [bne, e2]; rfl
    have a4 : W2.cell? ⟨w.heap.size, 4, none⟩ = some (.int .u64 a.sl) := HXA.out.cell rfl
    have b4 : W2.cell? ⟨w.heap.size + 1, 4, none⟩ = some (.int .u64 b.sl) := HXB.out.cell rfl
    have e3 : ((a.sl : Int) == (b.sl : Int)) = true := by have := G3.out; simp only [decide_eq_true_eq] at this; rw [beq_iff_eq]; omega
    have d3 : ((a.sl : Int) != (b.sl : Int)) = false := by rw [bne, e3]; rfl
    have a5 : W2.cell? ⟨w.heap.size, 5, none⟩ = some (.int .u64 a.num) := HXA.out.cell rfl
    have b5 : W2.cell? ⟨w.heap.size + 1, 5, none⟩ = some (.int .u64 b.num) := HXB.out.cell rfl
    have e4 : ((a.num : Int) == (b.num : Int)) = true := by have := G4.out; simp only [decide_eq_true_eq] at this; rw [beq_iff_eq]; omega
    have d4 : ((a.num : Int) != (b.num : Int)) = false := by rw [bne, e4]; rfl
    have a6 : W2.cell? ⟨w.heap.size, 6, none⟩ = some (.int .i64 a.hops) := HXA.out.cell rfl
    have b6 : W2.cell? ⟨w.heap.size + 1, 6, none⟩ = some (.int .i64 b.hops) := HXB.out.cell rfl
    have e5 : (a.hops == b.hops) = false := by have := G5.out; simpa using this
    have d5 : (a.hops != b.hops) = true := by rw [bne, e5]; rfl
    go_enter Tryz.func11, Tryz.ntmps11
    go_wp2
    go_ret
    exact ⟨ret_bool (by unfold sameM; simp only [G0.out, G1.out, G2.out, G3.out, G4.out, G5.out]; rfl), HB2.out⟩
  have G5 := hid g5
  clear g5
  cases g6 : decide (a.b = b.b)
  case false =>
    have G6 := hid g6
    clear g6
    have a0 : W2.cell? ⟨w.heap.size, 0, none⟩ = some (.int .i64 a.kind) := HXA.out.cell rfl
    have b0 : W2.cell? ⟨w.heap.size + 1, 0, none⟩ = some (.int .i64 b.kind) := HXB.out.cell rfl
    have e0 : (a.kind == b.kind) = true := by have := G0.out; simpa using this
    have d0 : (a.kind != b.kind) = false := by rw [bne, e0]; rfl
    have a1 : W2.cell? ⟨w.heap.size, 1, none⟩ = some (.int .u16 a.who.1) := HXA.out.cell rfl
    have b1 : W2.cell? ⟨w.heap.size + 1, 1, none⟩ = some (.int .u16 b.who.1) := HXB.out.cell rfl
    have a2 : W2.cell? ⟨w.heap.size, 2, none⟩ = some (.int .u32 a.who.2) := HXA.out.cell rfl
    have b2 : W2.cell? ⟨w.heap.size + 1, 2, none⟩ = some (.int .u32 b.who.2) := HXB.out.cell rfl
    have ep := HEP.out
    simp only [pid_dec a.who b.who true G1.out] at ep
    have a3 : W2.cell? ⟨w.heap.size, 3, none⟩ = some (.int .u64 a.vw) := HXA.out.cell rfl
    have b3 : W2.cell? ⟨w.heap.size + 1, 3, none⟩ = some (.int .u64 b.vw) := HXB.out.cell rfl
    have e2 : ((a.vw : Int) == (b.vw : Int)) = true := by have := G2.out; simp only [decide_eq_true_eq] at this; rw [beq_iff_eq]; omega
    have d2 : ((a.vw : Int) != (b.vw : Int)) = false := by rw [bne, e2]; rfl
    have a4 : W2.cell? ⟨w.heap.size, 4, none⟩ = some (.int .u64 a.sl) := HXA.out.cell rfl
    have b4 : W2.cell? ⟨w.heap.size + 1, 4, none⟩ = some (.int .u64 b.sl) := HXB.out.cell rfl
    have e3 : ((a.sl : Int) == (b.sl : Int)) = true := by have := G3.out; simp only [decide_eq_true_eq] at this; rw [beq_iff_eq]; omega
    have d3 : ((a.sl : Int) != (b.sl : Int)) = false := by rw [bne, e3]; rfl
    have a5 : W2.cell? ⟨w.heap.size, 5, none⟩ = some (.int .u64 a.num) := HXA.out.cell rfl
    have b5 : W2.cell? ⟨w.heap.size + 1, 5, none⟩ = some (.int .u64 b.num) := HXB.out.cell rfl
    have e4 : ((a.num : Int) == (b.num : Int)) = true := by have := G4.out; simp only [decide_eq_true_eq] at this; rw [beq_iff_eq]; omega
    have d4 : ((a.num : Int) != (b.num : Int)) = false := by rw [bne, e4]; rfl
    have a6 : W2.cell? ⟨w.heap.size, 6, none⟩ = some (.int .i64 a.hops) := HXA.out.cell rfl
    have b6 : W2.cell? ⟨w.heap.size + 1, 6, none⟩ = some (.int .i64 b.hops) := HXB.out.cell rfl
    have e5 : (a.hops == b.hops) = true := by have := G5.out; simpa using this
    have d5 : (a.hops != b.hops) = false := by rw [bne, e5]; rfl
    have a7 : W2.cell? ⟨w.heap.size, 7, none⟩ = some (.int .u32 a.b.1) := HXA.out.cell rfl
    have b7 : W2.cell? ⟨w.heap.size + 1, 7, none⟩ = some (.int .u32 b.b.1) := HXB.out.cell rfl
    have a8 : W2.cell? ⟨w.heap.size, 8, none⟩ = some (.int .u16 a.b.2.1) := HXA.out.cell rfl
    have b8 : W2.cell? ⟨w.heap.size + 1, 8, none⟩ = some (.int .u16 b.b.2.1) := HXB.out.cell rfl
    have a9 : W2.cell? ⟨w.heap.size, 9, none⟩ = some (.int .u32 a.b.2.2) := HXA.out.cell rfl
    have b9 : W2.cell? ⟨w.heap.size + 1, 9, none⟩ = some (.int .u32 b.b.2.2) := HXB.out.cell rfl
    have exb := HEB.out
    simp only [bal_dec a.b b.b false G6.out] at exb
    go_enter Tryz.func11, Tryz.ntmps11
    go_wp2
    go_ret
    exact ⟨ret_bool (by unfold sameM; simp only [G0.out, G1.out, G2.out, G3.out, G4.out, G5.out, G6.out]; rfl), HB2.out⟩
  have G6 := hid g6
  clear g6
  cases g7 : decide (a.a = b.a)
  case false =>
    have G7 := hid g7
    clear g7
    have a0 : W2.cell? ⟨w.heap.size, 0, none⟩ = some (.int .i64 a.kind) := HXA.out.cell rfl
    have b0 : W2.cell? ⟨w.heap.size + 1, 0, none⟩ = some (.int .i64 b.kind) := HXB.out.cell rfl
    have e0 : (a.kind == b.kind) = true := by have := G0.out; simpa using this
    have d0 : (a.kind != b.kind) = false := by rw [bne, e0]; rfl
    have a1 : W2.cell? ⟨w.heap.size, 1, none⟩ = some (.int .u16 a.who.1) := HXA.out.cell rfl
    have b1 : W2.cell? ⟨w.heap.size + 1, 1, none⟩ = some (.int .u16 b.who.1) := HXB.out.cell rfl
    have a2 : W2.cell? ⟨w.heap.size, 2, none⟩ = some (.int .u32 a.who.2) := HXA.out.cell rfl
    have b2 : W2.cell? ⟨w.heap.size + 1, 2, none⟩ = some (.int .u32 b.who.2) := HXB.out.cell rfl
    have ep := HEP.out
    simp only [pid_dec a.who b.who true G1.out] at ep
    have a3 : W2.cell? ⟨w.heap.size, 3, none⟩ = some (.int .u64 a.vw) := HXA.out.cell rfl
    have b3 : W2.cell? ⟨w.heap.size + 1, 3, none⟩ = some (.int .u64 b.vw) := HXB.out.cell rfl
    have e2 : ((a.vw : Int) == (b.vw : Int)) = true := by have := G2.out; simp only [decide_eq_true_eq] at this; rw [beq_iff_eq]; omega
    have d2 : ((a.vw : Int) != (b.vw : Int)) = false := by rw [bne, e2]; rfl
    have a4 : W2.cell? ⟨w.heap.size, 4, none⟩ = some (.int .u64 a.sl) := HXA.out.cell rfl
    have b4 : W2.cell? ⟨w.heap.size + 1, 4, none⟩ = some (.int .u64 b.sl) := HXB.out.cell rfl
    have e3 : ((a.sl : Int) == (b.sl : Int)) = true := by have := G3.out; simp only [decide_eq_true_eq] at this; rw [beq_iff_eq]; omega
    have d3 : ((a.sl : Int) != (b.sl : Int)) = false := by rw [bne, e3]; rfl
    have a5 : W2.cell? ⟨w.heap.size, 5, none⟩ = some (.int .u64 a.num) := HXA.out.cell rfl
    have b5 : W2.cell? ⟨w.heap.size + 1, 5, none⟩ = some (.int .u64 b.num) := HXB.out.cell rfl
    have e4 : ((a.num : Int) == (b.num : Int)) = true := by have := G4.out; simp only [decide_eq_true_eq] at this; rw [beq_iff_eq]; omega
    have d4 : ((a.num : Int) != (b.num : Int)) = false := by rw [bne, e4]; rfl
    have a6 : W2.cell? ⟨w.heap.size, 6, none⟩ = some (.int .i64 a.hops) := HXA.out.cell rfl
    have b6 : W2.cell? ⟨w.heap.size + 1, 6, none⟩ = some (.int .i64 b.hops) := HXB.out.cell rfl
    have e5 : (a.hops == b.hops) = true := by have := G5.out; simpa using this
    have d5 : (a.hops != b.hops) = false := by rw [bne, e5]; rfl
    have a7 : W2.cell? ⟨w.heap.size, 7, none⟩ = some (.int .u32 a.b.1) := HXA.out.cell rfl
    have b7 : W2.cell? ⟨w.heap.size + 1, 7, none⟩ = some (.int .u32 b.b.1) := HXB.out.cell rfl
    have a8 : W2.cell? ⟨w.heap.size, 8, none⟩ = some (.int .u16 a.b.2.1) := HXA.out.cell rfl
    have b8 : W2.cell? ⟨w.heap.size + 1, 8, none⟩ = some (.int .u16 b.b.2.1) := HXB.out.cell rfl
    have a9 : W2.cell? ⟨w.heap.size, 9, none⟩ = some (.int .u32 a.b.2.2) := HXA.out.cell rfl
    have b9 : W2.cell? ⟨w.heap.size + 1, 9, none⟩ = some (.int .u32 b.b.2.2) := HXB.out.cell rfl
    have exb := HEB.out
    simp only [bal_dec a.b b.b true G6.out] at exb
    have a10 : W2.cell? ⟨w.heap.size, 10, none⟩ = some (.int .u32 a.a.1) := HXA.out.cell rfl
    have b10 : W2.cell? ⟨w.heap.size + 1, 10, none⟩ = some (.int .u32 b.a.1) := HXB.out.cell rfl
    have a11 : W2.cell? ⟨w.heap.size, 11, none⟩ = some (.int .u16 a.a.2.1) := HXA.out.cell rfl
    have b11 : W2.cell? ⟨w.heap.size + 1, 11, none⟩ = some (.int .u16 b.a.2.1) := HXB.out.cell rfl
    have a12 : W2.cell? ⟨w.heap.size, 12, none⟩ = some (.int .u32 a.a.2.2) := HXA.out.cell rfl
    have b12 : W2.cell? ⟨w.heap.size + 1, 12, none⟩ = some (.int .u32 b.a.2.2) := HXB.out.cell rfl
    have exa := HEA.out
    simp only [bal_dec a.a b.a false G7.out] at exa
    go_enter Tryz.func11, Tryz.ntmps11
    go_wp2
    go_ret
    exact ⟨ret_bool (by unfold sameM; simp only [G0.out, G1.out, G2.out, G3.out, G4.out, G5.out, G6.out, G7.out]; rfl), HB2.out⟩
  have G7 := hid g7
  clear g7
  cases g8 : decide (a.has = b.has)
  case false =>
    have G8 := hid g8
    clear g8
    have a0 : W2.cell? ⟨w.heap.size, 0, none⟩ = some (.int .i64 a.kind) := HXA.out.cell rfl
    have b0 : W2.cell? ⟨w.heap.size + 1, 0, none⟩ = some (.int .i64 b.kind) := HXB.out.cell rfl
    have e0 : (a.kind == b.kind) = true := by have := G0.out; simpa using this
    have d0 : (a.kind != b.kind) = false := by rw [bne, e0]; rfl
    have a1 : W2.cell? ⟨w.heap.size, 1, none⟩ = some (.int .u16 a.who.1) := HXA.out.cell rfl
    have b1 : W2.cell? ⟨w.heap.size + 1, 1, none⟩ = some (.int .u16 b.who.1) := HXB.out.cell rfl
    have a2 : W2.cell? ⟨w.heap.size, 2, none⟩ = some (.int .u32 a.who.2) := HXA.out.cell rfl
    have b2 : W2.cell? ⟨w.heap.size + 1, 2, none⟩ = some (.int .u32 b.who.2) := HXB.out.cell rfl
    have ep := HEP.out
    simp only [pid_dec a.who b.who true G1.out] at ep
    have a3 : W2.cell? ⟨w.heap.size, 3, none⟩ = some (.int .u64 a.vw) := HXA.out.cell rfl
    have b3 : W2.cell? ⟨w.heap.size + 1, 3, none⟩ = some (.int .u64 b.vw) := HXB.out.cell rfl
    have e2 : ((a.vw : Int) == (b.vw : Int)) = true := by have := G2.out; simp only [decide_eq_true_eq] at this; rw [beq_iff_eq]; omega
    have d2 : ((a.vw : Int) != (b.vw : Int)) = false := by rw [bne, e2]; rfl
    have a4 : W2.cell? ⟨w.heap.size, 4, none⟩ = some (.int .u64 a.sl) := HXA.out.cell rfl
    have b4 : W2.cell? ⟨w.heap.size + 1, 4, none⟩ = some (.int .u64 b.sl) := HXB.out.cell rfl
    have e3 : ((a.sl : Int) == (b.sl : Int)) = true := by have := G3.out; simp only [decide_eq_true_eq] at this; rw [beq_iff_eq]; omega
    have d3 : ((a.sl : Int) != (b.sl : Int)) = false := by rw [bne, e3]; rfl
    have a5 : W2.cell? ⟨w.heap.size, 5, none⟩ = some (.int .u64 a.num) := HXA.out.cell rfl
    have b5 : W2.cell? ⟨w.heap.size + 1, 5, none⟩ = some (.int .u64 b.num) := HXB.out.cell rfl
    have e4 : ((a.num : Int) == (b.num : Int)) = true := by have := G4.out; simp only [decide_eq_true_eq] at this; rw [beq_iff_eq]; omega
    have d4 : ((a.num : Int) != (b.num : Int)) = false := by rw [bne, e4]; rfl
    have a6 : W2.cell? ⟨w.heap.size, 6, none⟩ = some (.int .i64 a.hops) := HXA.out.cell rfl
    have b6 : W2.cell? ⟨w.heap.size + 1, 6, none⟩ = some (.int .i64 b.hops) := HXB.out.cell rfl
    have e5 : (a.hops == b.hops) = true := by have := G5.out; simpa using this
    have d5 : (a.hops != b.hops) = false := by rw [bne, e5]; rfl
    have a7 : W2.cell? ⟨w.heap.size, 7, none⟩ = some (.int .u32 a.b.1) := HXA.out.cell rfl
    have b7 : W2.cell? ⟨w.heap.size + 1, 7, none⟩ = some (.int .u32 b.b.1) := HXB.out.cell rfl
    have a8 : W2.cell? ⟨w.heap.size, 8, none⟩ = some (.int .u16 a.b.2.1) := HXA.out.cell rfl
    have b8 : W2.cell? ⟨w.heap.size + 1, 8, none⟩ = some (.int .u16 b.b.2.1) := HXB.out.cell rfl
    have a9 : W2.cell? ⟨w.heap.size, 9, none⟩ = some (.int .u32 a.b.2.2) := HXA.out.cell rfl
    have b9 : W2.cell? ⟨w.heap.size + 1, 9, none⟩ = some (.int .u32 b.b.2.2) := HXB.out.cell rfl
    have exb := HEB.out
    simp only [bal_dec a.b b.b true G6.out] at exb
    have a10 : W2.cell? ⟨w.heap.size, 10, none⟩ = some (.int .u32 a.a.1) := HXA.out.cell rfl
    have b10 : W2.cell? ⟨w.heap.size + 1, 10, none⟩ = some (.int .u32 b.a.1) := HXB.out.cell rfl
    have a11 : W2.cell? ⟨w.heap.size, 11, none⟩ = some (.int .u16 a.a.2.1) := HXA.out.cell rfl
    have b11 : W2.cell? ⟨w.heap.size + 1, 11, none⟩ = some (.int .u16 b.a.2.1) := HXB.out.cell rfl
    have a12 : W2.cell? ⟨w.heap.size, 12, none⟩ = some (.int .u32 a.a.2.2) := HXA.out.cell rfl
    have b12 : W2.cell? ⟨w.heap.size + 1, 12, none⟩ = some (.int .u32 b.a.2.2) := HXB.out.cell rfl
    have exa := HEA.out
    simp only [bal_dec a.a b.a true G7.out] at exa
    have a13 : W2.cell? ⟨w.heap.size, 13, none⟩ = some (.bool a.has) := HXA.out.cell rfl
    have b13 : W2.cell? ⟨w.heap.size + 1, 13, none⟩ = some (.bool b.has) := HXB.out.cell rfl
    have e8 : (a.has == b.has) = false := by have := G8.out; simpa using this
    go_enter Tryz.func11, Tryz.ntmps11
    go_wp2
    go_ret
    exact ⟨ret_bool (by unfold sameM; simp only [G0.out, G1.out, G2.out, G3.out, G4.out, G5.out, G6.out, G7.out, G8.out]; rfl), HB2.out⟩
  have G8 := hid g8
  clear g8
  cases g9 : sameC a.c b.c
  case false =>
    have G9 := hid g9
    clear g9
    have a0 : W2.cell? ⟨w.heap.size, 0, none⟩ = some (.int .i64 a.kind) := HXA.out.cell rfl
    have b0 : W2.cell? ⟨w.heap.size + 1, 0, none⟩ = some (.int .i64 b.kind) := HXB.out.cell rfl
    have e0 : (a.kind == b.kind) = true := by have := G0.out; simpa using this
    have d0 : (a.kind != b.kind) = false := by rw [bne, e0]; rfl
    have a1 : W2.cell? ⟨w.heap.size, 1, none⟩ = some (.int .u16 a.who.1) := HXA.out.cell rfl
    have b1 : W2.cell? ⟨w.heap.size + 1, 1, none⟩ = some (.int .u16 b.who.1) := HXB.out.cell rfl
    have a2 : W2.cell? ⟨w.heap.size, 2, none⟩ = some (.int .u32 a.who.2) := HXA.out.cell rfl
    have b2 : W2.cell? ⟨w.heap.size + 1, 2, none⟩ = some (.int .u32 b.who.2) := HXB.out.cell rfl
    have ep := HEP.out
    simp only [pid_dec a.who b.who true G1.out] at ep
    have a3 : W2.cell? ⟨w.heap.size, 3, none⟩ = some (.int .u64 a.vw) := HXA.out.cell rfl
    have b3 : W2.cell? ⟨w.heap.size + 1, 3, none⟩ = some (.int .u64 b.vw) := HXB.out.cell rfl
    have e2 : ((a.vw : Int) == (b.vw : Int)) = true := by have := G2.out; simp only [decide_eq_true_eq] at this; rw [beq_iff_eq]; omega
    have d2 : ((a.vw : Int) != (b.vw : Int)) = false := by rw [bne, e2]; rfl
    have a4 : W2.cell? ⟨w.heap.size, 4, none⟩ = some (.int .u64 a.sl) := HXA.out.cell rfl
    have b4 : W2.cell? ⟨w.heap.size + 1, 4, none⟩ = some (.int .u64 b.sl) := HXB.out.cell rfl
    have e3 : ((a.sl : Int) == (b.sl : Int)) = true := by have := G3.out; simp only [decide_eq_true_eq] at this; rw [beq_iff_eq]; omega
    have d3 : ((a.sl : Int) != (b.sl : Int)) = false := by rw [bne, e3]; rfl
    have a5 : W2.cell? ⟨w.heap.size, 5, none⟩ = some (.int .u64 a.num) := HXA.out.cell rfl
    have b5 : W2.cell? ⟨w.heap.size + 1, 5, none⟩ = some (.int .u64 b.num) := HXB.out.cell rfl
    have e4 : ((a.num : Int) == (b.num : Int)) = true := by have := G4.out; simp only [decide_eq_true_eq] at this; rw [beq_iff_eq]; omega
    have d4 : ((a.num : Int) != (b.num : Int)) = false := by rw [bne, e4]; rfl
    have a6 : W2.cell? ⟨w.heap.size, 6, none⟩ = some (.int .i64 a.hops) := HXA.out.cell rfl
    have b6 : W2.cell? ⟨w.heap.size + 1, 6, none⟩ = some (.int .i64 b.hops) := HXB.out.cell rfl
    have e5 : (a.hops == b.hops) = true := by have := G5.out; simpa using this
    have d5 : (a.hops != b.hops) = false := by rw [bne, e5]; rfl
    have a7 : W2.cell? ⟨w.heap.size, 7, none⟩ = some (.int .u32 a.b.1) := HXA.out.cell rfl
    have b7 : W2.cell? ⟨w.heap.size + 1, 7, none⟩ = some (.int .u32 b.b.1) := HXB.out.cell rfl
    have a8 : W2.cell? ⟨w.heap.size, 8, none⟩ = some (.int .u16 a.b.2.1) := HXA.out.cell rfl
    have b8 : W2.cell? ⟨w.heap.size + 1, 8, none⟩ = some (.int .u16 b.b.2.1) := HXB.out.cell rfl
    have a9 : W2.cell? ⟨w.heap.size, 9, none⟩ = some (.int .u32 a.b.2.2) := HXA.out.cell rfl
    have b9 : W2.cell? ⟨w.heap.size + 1, 9, none⟩ = some (.int .u32 b.b.2.2) := HXB.out.cell rfl
    have exb := HEB.out
    simp only [bal_dec a.b b.b true G6.out] at exb
    have a10 : W2.cell? ⟨w.heap.size, 10, none⟩ = some (.int .u32 a.a.1) := HXA.out.cell rfl
    have b10 : W2.cell? ⟨w.heap.size + 1, 10, none⟩ = some (.int .u32 b.a.1) := HXB.out.cell rfl
    have a11 : W2.cell? ⟨w.heap.size, 11, none⟩ = some (.int .u16 a.a.2.1) := HXA.out.cell rfl
    have b11 : W2.cell? ⟨w.heap.size + 1, 11, none⟩ = some (.int .u16 b.a.2.1) := HXB.out.cell rfl
    have a12 : W2.cell? ⟨w.heap.size, 12, none⟩ = some (.int .u32 a.a.2.2) := HXA.out.cell rfl
    have b12 : W2.cell? ⟨w.heap.size + 1, 12, none⟩ = some (.int .u32 b.a.2.2) := HXB.out.cell rfl
    have exa := HEA.out
    simp only [bal_dec a.a b.a true G7.out] at exa
    have a13 : W2.cell? ⟨w.heap.size, 13, none⟩ = some (.bool a.has) := HXA.out.cell rfl
    have b13 : W2.cell? ⟨w.heap.size + 1, 13, none⟩ = some (.bool b.has) := HXB.out.cell rfl
    have e8 : (a.has == b.has) = true := by have := G8.out; simpa using this
    go_enter Tryz.func11, Tryz.ntmps11
    go_wp2_with (first
      | (refine wpList_loadMCw HXA.out (by rfl) rfl rfl ?_)
      | (refine wpList_loadMCw HXB.out (by rfl) rfl rfl ?_)
      | (go_at_call 42; (with_reducible refine (SC.out _ G9.out _ H2).mono ?_); rintro e w11 ⟨rfl, hb11⟩; have mA := HXA.out.ext hb11 HXA.out.lt; have mB := HXB.out.ext hb11 HXB.out.lt; have a24 : w11.cell? ⟨w.heap.size, 24, none⟩ = some (.int .u64 a.v.id) := mA.cell rfl; have b24 : w11.cell? ⟨w.heap.size + 1, 24, none⟩ = some (.int .u64 b.v.id) := mB.cell rfl; have a25 : w11.cell? ⟨w.heap.size, 25, none⟩ = some (.slice A.vm a.v.ms.length A.em) := mA.cell rfl; have b25 : w11.cell? ⟨w.heap.size + 1, 25, none⟩ = some (.slice B.vm b.v.ms.length B.em) := mB.cell rfl; have a26 : w11.cell? ⟨w.heap.size, 26, none⟩ = some (.slice A.vl a.v.ls.length A.el) := mA.cell rfl; have b26 : w11.cell? ⟨w.heap.size + 1, 26, none⟩ = some (.slice B.vl b.v.ls.length B.el) := mB.cell rfl; have a27 : w11.cell? ⟨w.heap.size, 27, none⟩ = some (.slice A.vd a.v.ds.length A.ed) := mA.cell rfl; have b27 : w11.cell? ⟨w.heap.size + 1, 27, none⟩ = some (.slice B.vd b.v.ds.length B.ed) := mB.cell rfl))
    go_ret
    exact ⟨ret_bool (by unfold sameM; simp only [G0.out, G1.out, G2.out, G3.out, G4.out, G5.out, G6.out, G7.out, G8.out, G9.out]; rfl), HB2.out.trans (hb11.mono HB2.out.size)⟩
  have G9 := hid g9
  clear g9
  cases g10 : sameB a.v b.v
  case false =>
    have G10 := hid g10
    clear g10
    have a0 : W2.cell? ⟨w.heap.size, 0, none⟩ = some (.int .i64 a.kind) := HXA.out.cell rfl
    have b0 : W2.cell? ⟨w.heap.size + 1, 0, none⟩ = some (.int .i64 b.kind) := HXB.out.cell rfl
    have e0 : (a.kind == b.kind) = true := by have := G0.out; simpa using this
    have d0 : (a.kind != b.kind) = false := by rw [bne, e0]; rfl
    have a1 : W2.cell? ⟨w.heap.size, 1, none⟩ = some (.int .u16 a.who.1) := HXA.out.cell rfl
    have b1 : W2.cell? ⟨w.heap.size + 1, 1, none⟩ = some (.int .u16 b.who.1) := HXB.out.cell rfl
    have a2 : W2.cell? ⟨w.heap.size, 2, none⟩ = some (.int .u32 a.who.2) := HXA.out.cell rfl
    have b2 : W2.cell? ⟨w.heap.size + 1, 2, none⟩ = some (.int .u32 b.who.2) := HXB.out.cell rfl
    have ep := HEP.out
    simp only [pid_dec a.who b.who true G1.out] at ep
    have a3 : W2.cell? ⟨w.heap.size, 3, none⟩ = some (.int .u64 a.vw) := HXA.out.cell rfl
    have b3 : W2.cell? ⟨w.heap.size + 1, 3, none⟩ = some (.int .u64 b.vw) := HXB.out.cell rfl
    have e2 : ((a.vw : Int) == (b.vw : Int)) = true := by have := G2.out; simp only [decide_eq_true_eq] at this; rw [beq_iff_eq]; omega
    have d2 : ((a.vw : Int) != (b.vw : Int)) = false := by rw [bne, e2]; rfl
    have a4 : W2.cell? ⟨w.heap.size, 4, none⟩ = some (.int .u64 a.sl) := HXA.out.cell rfl
    have b4 : W2.cell? ⟨w.heap.size + 1, 4, none⟩ = some (.int .u64 b.sl) := HXB.out.cell rfl
    have e3 : ((a.sl : Int) == (b.sl : Int)) = true := by have := G3.out; simp only [decide_eq_true_eq] at this; rw [beq_iff_eq]; omega
    have d3 : ((a.sl : Int) != (b.sl : Int)) = false := by rw [bne, e3]; rfl
    have a5 : W2.cell? ⟨w.heap.size, 5, none⟩ = some (.int .u64 a.num) := HXA.out.cell rfl
    have b5 : W2.cell? ⟨w.heap.size + 1, 5, none⟩ = some (.int .u64 b.num) := HXB.out.cell rfl
    have e4 : ((a.num : Int) == (b.num : Int)) = true := by have := G4.out; simp only [decide_eq_true_eq] at this; rw [beq_iff_eq]; omega
    have d4 : ((a.num : Int) != (b.num : Int)) = false := by rw [bne, e4]; rfl
    have a6 : W2.cell? ⟨w.heap.size, 6, none⟩ = some (.int .i64 a.hops) := HXA.out.cell rfl
    have b6 : W2.cell? ⟨w.heap.size + 1, 6, none⟩ = some (.int .i64 b.hops) := HXB.out.cell rfl
    have e5 : (a.hops == b.hops) = true := by have := G5.out; simpa using this
    have d5 : (a.hops != b.hops) = false := by rw [bne, e5]; rfl
    have a7 : W2.cell? ⟨w.heap.size, 7, none⟩ = some (.int .u32 a.b.1) := HXA.out.cell rfl
    have b7 : W2.cell? ⟨w.heap.size + 1, 7, none⟩ = some (.int .u32 b.b.1) := HXB.out.cell rfl
    have a8 : W2.cell? ⟨w.heap.size, 8, none⟩ = some (.int .u16 a.b.2.1) := HXA.out.cell rfl
    have b8 : W2.cell? ⟨w.heap.size + 1, 8, none⟩ = some (.int .u16 b.b.2.1) := HXB.out.cell rfl
    have a9 : W2.cell? ⟨w.heap.size, 9, none⟩ = some (.int .u32 a.b.2.2) := HXA.out.cell rfl
    have b9 : W2.cell? ⟨w.heap.size + 1, 9, none⟩ = some (.int .u32 b.b.2.2) := HXB.out.cell rfl
    have exb := HEB.out
    simp only [bal_dec a.b b.b true G6.out] at exb
    have a10 : W2.cell? ⟨w.heap.size, 10, none⟩ = some (.int .u32 a.a.1) := HXA.out.cell rfl
    have b10 : W2.cell? ⟨w.heap.size + 1, 10, none⟩ = some (.int .u32 b.a.1) := HXB.out.cell rfl
    have a11 : W2.cell? ⟨w.heap.size, 11, none⟩ = some (.int .u16 a.a.2.1) := HXA.out.cell rfl
    have b11 : W2.cell? ⟨w.heap.size + 1, 11, none⟩ = some (.int .u16 b.a.2.1) := HXB.out.cell rfl
    have a12 : W2.cell? ⟨w.heap.size, 12, none⟩ = some (.int .u32 a.a.2.2) := HXA.out.cell rfl
    have b12 : W2.cell? ⟨w.heap.size + 1, 12, none⟩ = some (.int .u32 b.a.2.2) := HXB.out.cell rfl
    have exa := HEA.out
    simp only [bal_dec a.a b.a true G7.out] at exa
    have a13 : W2.cell? ⟨w.heap.size, 13, none⟩ = some (.bool a.has) := HXA.out.cell rfl
    have b13 : W2.cell? ⟨w.heap.size + 1, 13, none⟩ = some (.bool b.has) := HXB.out.cell rfl
    have e8 : (a.has == b.has) = true := by have := G8.out; simpa using this
    go_enter Tryz.func11, Tryz.ntmps11
    go_wp2_with (first
      | (refine wpList_loadMCw HXA.out (by rfl) rfl rfl ?_)
      | (refine wpList_loadMCw HXB.out (by rfl) rfl rfl ?_)
      | (go_at_call 42; (with_reducible refine (SC.out _ G9.out _ H2).mono ?_); rintro e w11 ⟨rfl, hb11⟩; have mA := HXA.out.ext hb11 HXA.out.lt; have mB := HXB.out.ext hb11 HXB.out.lt; have a24 : w11.cell? ⟨w.heap.size, 24, none⟩ = some (.int .u64 a.v.id) := mA.cell rfl; have b24 : w11.cell? ⟨w.heap.size + 1, 24, none⟩ = some (.int .u64 b.v.id) := mB.cell rfl; have a25 : w11.cell? ⟨w.heap.size, 25, none⟩ = some (.slice A.vm a.v.ms.length A.em) := mA.cell rfl; have b25 : w11.cell? ⟨w.heap.size + 1, 25, none⟩ = some (.slice B.vm b.v.ms.length B.em) := mB.cell rfl; have a26 : w11.cell? ⟨w.heap.size, 26, none⟩ = some (.slice A.vl a.v.ls.length A.el) := mA.cell rfl; have b26 : w11.cell? ⟨w.heap.size + 1, 26, none⟩ = some (.slice B.vl b.v.ls.length B.el) := mB.cell rfl; have a27 : w11.cell? ⟨w.heap.size, 27, none⟩ = some (.slice A.vd a.v.ds.length A.ed) := mA.cell rfl; have b27 : w11.cell? ⟨w.heap.size + 1, 27, none⟩ = some (.slice B.vd b.v.ds.length B.ed) := mB.cell rfl)
      | (go_at_call 16; (with_reducible refine (SV.out _ G10.out _ hb11).mono ?_); rintro e w12 ⟨rfl, hb12⟩; have mA := HXA.out.ext hb12 HXA.out.lt; have mB := HXB.out.ext hb12 HXB.out.lt; have a28 : w12.cell? ⟨w.heap.size, 28, none⟩ = some (.slice A.ya a.y.length A.yc) := mA.cell rfl; have b28 : w12.cell? ⟨w.heap.size + 1, 28, none⟩ = some (.slice B.ya b.y.length B.yc) := mB.cell rfl))
    go_ret
    exact ⟨ret_bool (by unfold sameM; simp only [G0.out, G1.out, G2.out, G3.out, G4.out, G5.out, G6.out, G7.out, G8.out, G9.out, G10.out]; rfl), HB2.out.trans (hb12.mono HB2.out.size)⟩
  have G10 := hid g10
  clear g10
  cases g11 : decide (a.y = b.y)
  case false =>
    have G11 := hid g11
    clear g11
    have a0 : W2.cell? ⟨w.heap.size, 0, none⟩ = some (.int .i64 a.kind) := HXA.out.cell rfl
    have b0 : W2.cell? ⟨w.heap.size + 1, 0, none⟩ = some (.int .i64 b.kind) := HXB.out.cell rfl
    have e0 : (a.kind == b.kind) = true := by have := G0.out; simpa using this
    have d0 : (a.kind != b.kind) = false := by rw [bne, e0]; rfl
    have a1 : W2.cell? ⟨w.heap.size, 1, none⟩ = some (.int .u16 a.who.1) := HXA.out.cell rfl
    have b1 : W2.cell? ⟨w.heap.size + 1, 1, none⟩ = some (.int .u16 b.who.1) := HXB.out.cell rfl
    have a2 : W2.cell? ⟨w.heap.size, 2, none⟩ = some (.int .u32 a.who.2) := HXA.out.cell rfl
    have b2 : W2.cell? ⟨w.heap.size + 1, 2, none⟩ = some (.int .u32 b.who.2) := HXB.out.cell rfl
    have ep := HEP.out
    simp only [pid_dec a.who b.who true G1.out] at ep
    have a3 : W2.cell? ⟨w.heap.size, 3, none⟩ = some (.int .u64 a.vw) := HXA.out.cell rfl
    have b3 : W2.cell? ⟨w.heap.size + 1, 3, none⟩ = some (.int .u64 b.vw) := HXB.out.cell rfl
    have e2 : ((a.vw : Int) == (b.vw : Int)) = true := by have := G2.out; simp only [decide_eq_true_eq] at this; rw [beq_iff_eq]; omega
    have d2 : ((a.vw : Int) != (b.vw : Int)) = false := by rw [bne, e2]; rfl
    have a4 : W2.cell? ⟨w.heap.size, 4, none⟩ = some (.int .u64 a.sl) := HXA.out.cell rfl
    have b4 : W2.cell? ⟨w.heap.size + 1, 4, none⟩ = some (.int .u64 b.sl) := HXB.out.cell rfl
    have e3 : ((a.sl : Int) == (b.sl : Int)) = true := by have := G3.out; simp only [decide_eq_true_eq] at this; rw [beq_iff_eq]; omega
    have d3 : ((a.sl : Int) != (b.sl : Int)) = false := by rw [bne, e3]; rfl
    have a5 : W2.cell? ⟨w.heap.size, 5, none⟩ = some (.int .u64 a.num) := HXA.out.cell rfl
    have b5 : W2.cell? ⟨w.heap.size + 1, 5, none⟩ = some (.int .u64 b.num) := HXB.out.cell rfl
    have e4 : ((a.num : Int) == (b.num : Int)) = true := by have := G4.out; simp only [decide_eq_true_eq] at this; rw [beq_iff_eq]; omega
    have d4 : ((a.num : Int) != (b.num : Int)) = false := by rw [bne, e4]; rfl
    have a6 : W2.cell? ⟨w.heap.size, 6, none⟩ = some (.int .i64 a.hops) := HXA.out.cell rfl
    have b6 : W2.cell? ⟨w.heap.size + 1, 6, none⟩ = some (.int .i64 b.hops) := HXB.out.cell rfl
    have e5 : (a.hops == b.hops) = true := by have := G5.out; simpa using this
    have d5 : (a.hops != b.hops) = false := by rw [bne, e5]; rfl
    have a7 : W2.cell? ⟨w.heap.size, 7, none⟩ = some (.int .u32 a.b.1) := HXA.out.cell rfl
    have b7 : W2.cell? ⟨w.heap.size + 1, 7, none⟩ = some (.int .u32 b.b.1) := HXB.out.cell rfl
    have a8 : W2.cell? ⟨w.heap.size, 8, none⟩ = some (.int .u16 a.b.2.1) := HXA.out.cell rfl
    have b8 : W2.cell? ⟨w.heap.size + 1, 8, none⟩ = some (.int .u16 b.b.2.1) := HXB.out.cell rfl
    have a9 : W2.cell? ⟨w.heap.size, 9, none⟩ = some (.int .u32 a.b.2.2) := HXA.out.cell rfl
    have b9 : W2.cell? ⟨w.heap.size + 1, 9, none⟩ = some (.int .u32 b.b.2.2) := HXB.out.cell rfl
    have exb := HEB.out
    simp only [bal_dec a.b b.b true G6.out] at exb
    have a10 : W2.cell? ⟨w.heap.size, 10, none⟩ = some (.int .u32 a.a.1) := HXA.out.cell rfl
    have b10 : W2.cell? ⟨w.heap.size + 1, 10, none⟩ = some (.int .u32 b.a.1) := HXB.out.cell rfl
    have a11 : W2.cell? ⟨w.heap.size, 11, none⟩ = some (.int .u16 a.a.2.1) := HXA.out.cell rfl
    have b11 : W2.cell? ⟨w.heap.size + 1, 11, none⟩ = some (.int .u16 b.a.2.1) := HXB.out.cell rfl
    have a12 : W2.cell? ⟨w.heap.size, 12, none⟩ = some (.int .u32 a.a.2.2) := HXA.out.cell rfl
    have b12 : W2.cell? ⟨w.heap.size + 1, 12, none⟩ = some (.int .u32 b.a.2.2) := HXB.out.cell rfl
    have exa := HEA.out
    simp only [bal_dec a.a b.a true G7.out] at exa
    have a13 : W2.cell? ⟨w.heap.size, 13, none⟩ = some (.bool a.has) := HXA.out.cell rfl
    have b13 : W2.cell? ⟨w.heap.size + 1, 13, none⟩ = some (.bool b.has) := HXB.out.cell rfl
    have e8 : (a.has == b.has) = true := by have := G8.out; simpa using this
    go_enter Tryz.func11, Tryz.ntmps11
    go_wp2_with (first
      | (refine wpList_loadMCw HXA.out (by rfl) rfl rfl ?_)
      | (refine wpList_loadMCw HXB.out (by rfl) rfl rfl ?_)
      | (go_at_call 42; (with_reducible refine (SC.out _ G9.out _ H2).mono ?_); rintro e w11 ⟨rfl, hb11⟩; have mA := HXA.out.ext hb11 HXA.out.lt; have mB := HXB.out.ext hb11 HXB.out.lt; have a24 : w11.cell? ⟨w.heap.size, 24, none⟩ = some (.int .u64 a.v.id) := mA.cell rfl; have b24 : w11.cell? ⟨w.heap.size + 1, 24, none⟩ = some (.int .u64 b.v.id) := mB.cell rfl; have a25 : w11.cell? ⟨w.heap.size, 25, none⟩ = some (.slice A.vm a.v.ms.length A.em) := mA.cell rfl; have b25 : w11.cell? ⟨w.heap.size + 1, 25, none⟩ = some (.slice B.vm b.v.ms.length B.em) := mB.cell rfl; have a26 : w11.cell? ⟨w.heap.size, 26, none⟩ = some (.slice A.vl a.v.ls.length A.el) := mA.cell rfl; have b26 : w11.cell? ⟨w.heap.size + 1, 26, none⟩ = some (.slice B.vl b.v.ls.length B.el) := mB.cell rfl; have a27 : w11.cell? ⟨w.heap.size, 27, none⟩ = some (.slice A.vd a.v.ds.length A.ed) := mA.cell rfl; have b27 : w11.cell? ⟨w.heap.size + 1, 27, none⟩ = some (.slice B.vd b.v.ds.length B.ed) := mB.cell rfl)
      | (go_at_call 16; (with_reducible refine (SV.out _ G10.out _ hb11).mono ?_); rintro e w12 ⟨rfl, hb12⟩; have mA := HXA.out.ext hb12 HXA.out.lt; have mB := HXB.out.ext hb12 HXB.out.lt; have a28 : w12.cell? ⟨w.heap.size, 28, none⟩ = some (.slice A.ya a.y.length A.yc) := mA.cell rfl; have b28 : w12.cell? ⟨w.heap.size + 1, 28, none⟩ = some (.slice B.ya b.y.length B.yc) := mB.cell rfl)
      | (go_at_call 22; (with_reducible refine (SY.out _ G11.out _ hb12).mono ?_); rintro e w13 ⟨rfl, hb13⟩))
    go_ret
    exact ⟨ret_bool (by unfold sameM; simp only [G0.out, G1.out, G2.out, G3.out, G4.out, G5.out, G6.out, G7.out, G8.out, G9.out, G10.out, G11.out]; rfl), HB2.out.trans (hb13.mono HB2.out.size)⟩
  case true =>
    have G11 := hid g11
    clear g11
    have a0 : W2.cell? ⟨w.heap.size, 0, none⟩ = some (.int .i64 a.kind) := HXA.out.cell rfl
    have b0 : W2.cell? ⟨w.heap.size + 1, 0, none⟩ = some (.int .i64 b.kind) := HXB.out.cell rfl
    have e0 : (a.kind == b.kind) = true := by have := G0.out; simpa using this
    have d0 : (a.kind != b.kind) = false := by rw [bne, e0]; rfl
    have a1 : W2.cell? ⟨w.heap.size, 1, none⟩ = some (.int .u16 a.who.1) := HXA.out.cell rfl
    have b1 : W2.cell? ⟨w.heap.size + 1, 1, none⟩ = some (.int .u16 b.who.1) := HXB.out.cell rfl
    have a2 : W2.cell? ⟨w.heap.size, 2, none⟩ = some (.int .u32 a.who.2) := HXA.out.cell rfl
    have b2 : W2.cell? ⟨w.heap.size + 1, 2, none⟩ = some (.int .u32 b.who.2) := HXB.out.cell rfl
    have ep := HEP.out
    simp only [pid_dec a.who b.who true G1.out] at ep
    have a3 : W2.cell? ⟨w.heap.size, 3, none⟩ = some (.int .u64 a.vw) := HXA.out.cell rfl
    have b3 : W2.cell? ⟨w.heap.size + 1, 3, none⟩ = some (.int .u64 b.vw) := HXB.out.cell rfl
    have e2 : ((a.vw : Int) == (b.vw : Int)) = true := by have := G2.out; simp only [decide_eq_true_eq] at this; rw [beq_iff_eq]; omega
    have d2 : ((a.vw : Int) != (b.vw : Int)) = false := by rw [bne, e2]; rfl
    have a4 : W2.cell? ⟨w.heap.size, 4, none⟩ = some (.int .u64 a.sl) := HXA.out.cell rfl
    have b4 : W2.cell? ⟨w.heap.size + 1, 4, none⟩ = some (.int .u64 b.sl) := HXB.out.cell rfl
    have e3 : ((a.sl : Int) == (b.sl : Int)) = true := by have := G3.out; simp only [decide_eq_true_eq] at this; rw [beq_iff_eq]; omega
    have d3 : ((a.sl : Int) != (b.sl : Int)) = false := by rw [bne, e3]; rfl
    have a5 : W2.cell? ⟨w.heap.size, 5, none⟩ = some (.int .u64 a.num) := HXA.out.cell rfl
    have b5 : W2.cell? ⟨w.heap.size + 1, 5, none⟩ = some (.int .u64 b.num) := HXB.out.cell rfl
    have e4 : ((a.num : Int) == (b.num : Int)) = true := by have := G4.out; simp only [decide_eq_true_eq] at this; rw [beq_iff_eq]; omega
    have d4 : ((a.num : Int) != (b.num : Int)) = false := by rw [bne, e4]; rfl
    have a6 : W2.cell? ⟨w.heap.size, 6, none⟩ = some (.int .i64 a.hops) := HXA.out.cell rfl
    have b6 : W2.cell? ⟨w.heap.size + 1, 6, none⟩ = some (.int .i64 b.hops) := HXB.out.cell rfl
    have e5 : (a.hops == b.hops) = true := by have := G5.out; simpa using this
    have d5 : (a.hops != b.hops) = false := by rw [bne, e5]; rfl
    have a7 : W2.cell? ⟨w.heap.size, 7, none⟩ = some (.int .u32 a.b.1) := HXA.out.cell rfl
    have b7 : W2.cell? ⟨w.heap.size + 1, 7, none⟩ = some (.int .u32 b.b.1) := HXB.out.cell rfl
    have a8 : W2.cell? ⟨w.heap.size, 8, none⟩ = some (.int .u16 a.b.2.1) := HXA.out.cell rfl
    have b8 : W2.cell? ⟨w.heap.size + 1, 8, none⟩ = some (.int .u16 b.b.2.1) := HXB.out.cell rfl
    have a9 : W2.cell? ⟨w.heap.size, 9, none⟩ = some (.int .u32 a.b.2.2) := HXA.out.cell rfl
    have b9 : W2.cell? ⟨w.heap.size + 1, 9, none⟩ = some (.int .u32 b.b.2.2) := HXB.out.cell rfl
    have exb := HEB.out
    simp only [bal_dec a.b b.b true G6.out] at exb
    have a10 : W2.cell? ⟨w.heap.size, 10, none⟩ = some (.int .u32 a.a.1) := HXA.out.cell rfl
    have b10 : W2.cell? ⟨w.heap.size + 1, 10, none⟩ = some (.int .u32 b.a.1) := HXB.out.cell rfl
    have a11 : W2.cell? ⟨w.heap.size, 11, none⟩ = some (.int .u16 a.a.2.1) := HXA.out.cell rfl
    have b11 : W2.cell? ⟨w.heap.size + 1, 11, none⟩ = some (.int .u16 b.a.2.1) := HXB.out.cell rfl
    have a12 : W2.cell? ⟨w.heap.size, 12, none⟩ = some (.int .u32 a.a.2.2) := HXA.out.cell rfl
    have b12 : W2.cell? ⟨w.heap.size + 1, 12, none⟩ = some (.int .u32 b.a.2.2) := HXB.out.cell rfl
    have exa := HEA.out
    simp only [bal_dec a.a b.a true G7.out] at exa
    have a13 : W2.cell? ⟨w.heap.size, 13, none⟩ = some (.bool a.has) := HXA.out.cell rfl
    have b13 : W2.cell? ⟨w.heap.size + 1, 13, none⟩ = some (.bool b.has) := HXB.out.cell rfl
    have e8 : (a.has == b.has) = true := by have := G8.out; simpa using this
    go_enter Tryz.func11, Tryz.ntmps11
    go_wp2_with (first
      | (refine wpList_loadMCw HXA.out (by rfl) rfl rfl ?_)
      | (refine wpList_loadMCw HXB.out (by rfl) rfl rfl ?_)
      | (go_at_call 42; (with_reducible refine (SC.out _ G9.out _ H2).mono ?_); rintro e w11 ⟨rfl, hb11⟩; have mA := HXA.out.ext hb11 HXA.out.lt; have mB := HXB.out.ext hb11 HXB.out.lt; have a24 : w11.cell? ⟨w.heap.size, 24, none⟩ = some (.int .u64 a.v.id) := mA.cell rfl; have b24 : w11.cell? ⟨w.heap.size + 1, 24, none⟩ = some (.int .u64 b.v.id) := mB.cell rfl; have a25 : w11.cell? ⟨w.heap.size, 25, none⟩ = some (.slice A.vm a.v.ms.length A.em) := mA.cell rfl; have b25 : w11.cell? ⟨w.heap.size + 1, 25, none⟩ = some (.slice B.vm b.v.ms.length B.em) := mB.cell rfl; have a26 : w11.cell? ⟨w.heap.size, 26, none⟩ = some (.slice A.vl a.v.ls.length A.el) := mA.cell rfl; have b26 : w11.cell? ⟨w.heap.size + 1, 26, none⟩ = some (.slice B.vl b.v.ls.length B.el) := mB.cell rfl; have a27 : w11.cell? ⟨w.heap.size, 27, none⟩ = some (.slice A.vd a.v.ds.length A.ed) := mA.cell rfl; have b27 : w11.cell? ⟨w.heap.size + 1, 27, none⟩ = some (.slice B.vd b.v.ds.length B.ed) := mB.cell rfl)
      | (go_at_call 16; (with_reducible refine (SV.out _ G10.out _ hb11).mono ?_); rintro e w12 ⟨rfl, hb12⟩; have mA := HXA.out.ext hb12 HXA.out.lt; have mB := HXB.out.ext hb12 HXB.out.lt; have a28 : w12.cell? ⟨w.heap.size, 28, none⟩ = some (.slice A.ya a.y.length A.yc) := mA.cell rfl; have b28 : w12.cell? ⟨w.heap.size + 1, 28, none⟩ = some (.slice B.ya b.y.length B.yc) := mB.cell rfl)
      | (go_at_call 22; (with_reducible refine (SY.out _ G11.out _ hb12).mono ?_); rintro e w13 ⟨rfl, hb13⟩))
    go_ret
    exact ⟨ret_bool (by unfold sameM; simp only [G0.out, G1.out, G2.out, G3.out, G4.out, G5.out, G6.out, G7.out, G8.out, G9.out, G10.out, G11.out]; rfl), HB2.out.trans (hb13.mono HB2.out.size)⟩
end Go.Proofs.YtppapeoainafbaaGreatDoor

