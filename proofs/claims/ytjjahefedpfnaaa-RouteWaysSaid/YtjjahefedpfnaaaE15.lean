import Derived.Test.YtjjahefedpfnaaaE14
import Derived.Test.YtjjahefedpfnaaaB4
namespace Go.Proofs.Ytjjahefedpfnaaa
open Go.RowKit
def fourV : View := ⟨1, [(1, 1), (2, 1), (3, 1), (4, 1)], [[(1, 1), (2, 1)], [(3, 1), (4, 1)]], [(1, 1), (3, 1)]⟩
theorem PidRow.four' (w : World) {b : Nat} (h : b = w.heap.size) (x1 y1 x2 y2 x3 y3 x4 y4 : Int) : PidRow (w.alloc (.cells #[.int .u16 x1, .int .u32 y1, .int .u16 x2, .int .u32 y2, .int .u16 x3, .int .u32 y3, .int .u16 x4, .int .u32 y4] 32)) (some ⟨b, 0, none⟩) [(x1, y1), (x2, y2), (x3, y3), (x4, y4)] := by
  subst h
  exact .inr ⟨_, 0, rfl, by simp, fun i hi => by
    match i, hi with
    | 0, _ => exact ⟨by simp, by simp⟩
    | 1, _ => exact ⟨by simp, by simp⟩
    | 2, _ => exact ⟨by simp, by simp⟩
    | 3, _ => exact ⟨by simp, by simp⟩⟩
theorem ten_allocs {w : World} (a b c d e f g h i j : Obj) : Below w.heap.size w ((((((((((w.alloc a).alloc b).alloc c).alloc d).alloc e).alloc f).alloc g).alloc h).alloc i).alloc j) :=
  ((((((((((Below.refl _ _).alloc (Nat.le_refl _) _).alloc (by simp) _).alloc (by simp; omega) _).alloc (by simp; omega) _).alloc (by simp; omega) _).alloc (by simp; omega) _).alloc (by simp; omega) _).alloc (by simp; omega) _).alloc (by simp; omega) _).alloc (by simp; omega) _
set_option maxRecDepth 100000 in
set_option maxHeartbeats 3200000 in
theorem four_any (w : World) :
   Calls Try.prog 72 #[] w fun e w' => ∃ am al ad, e = .returned (.agg #[.int .u64 1, .slice am 4 4, .slice al 2 2, .slice ad 2 2]) ∧ ViewR w' am al ad fourV ∧ Below w.heap.size w w' := by
  go_enter Try.func72, Try.ntmps72
  go_wp2
  refine bodyPost_ret (v := .agg #[.int .u64 1, .slice (some ⟨w.heap.size + 1 + 1 + 1 + 1 + 1, 0, none⟩) 4 4, .slice (some ⟨w.heap.size + 1 + 1 + 1 + 1 + 1 + 1 + 1 + 1, 0, none⟩) 2 2, .slice (some ⟨w.heap.size + 1 + 1 + 1 + 1 + 1 + 1 + 1 + 1 + 1, 0, none⟩) 2 2]) (by simp [results, Try.results72, go_sem]) rfl ⟨_, _, _, rfl, ⟨?_, ?_, ?_, by decide, by decide, by decide, by decide⟩, ?_⟩
  · exact ((((PidRow.four' _ (by simp) _ _ _ _ _ _ _ _).alloc _).alloc _).alloc _).alloc _
  · exact (LeafRow.two' _ (by simp) (((PidRow.two' _ (by simp) _ _ _ _).alloc _)) (PidRow.two' _ (by simp) _ _ _ _) rfl rfl).alloc _
  · exact PidRow.two' _ (by simp) _ _ _ _
  · exact ten_allocs _ _ _ _ _ _ _ _ _ _
theorem fourWf : WfPids fourV.ms := fun p hp => by
  simp only [fourV, List.mem_cons, List.not_mem_nil, or_false] at hp
  rcases hp with rfl | rfl | rfl | rfl <;> simp
theorem fourS : Small fourV := ⟨⟨by decide, fourWf, fun l hl p hp => fourWf p (by
    simp only [fourV, List.mem_cons, List.not_mem_nil, or_false] at hl ⊢
    rcases hl with rfl | rfl <;> simp at hp <;> rcases hp with rfl | rfl <;> simp), fun p hp => fourWf p (by
    simp only [fourV, List.mem_cons, List.not_mem_nil, or_false] at hp ⊢
    rcases hp with rfl | rfl <;> simp)⟩, by decide, by decide, by decide, by decide⟩

/-! ### the reference's With, of one -/
def r0 : Nat → Int := fun _ => 0
def r1 : Nat → Int := fun i => if i = 1 then 1 else 0
theorem results_cell_mid {P : Program} {fn : Func} {p : Tmp} {ty : TypeId} (h : fn.results = #[.cell p ty]) (tmps : Array Value) (w : World) (b o : Nat) (cs : List Value) (d : TypeDesc)
    (hp : tmps.getD p undef = .pointer (some ⟨b, o, none⟩)) (hc : w.rangeAt b o cs)
    (hu : P.underlying ty = some d) (hd : d.isRow = true) (hi : (P.info? ty).map (·.size) = some cs.length) :
    (results fn tmps).run P w = .ok (.agg cs.toArray) w := by
  have hp' : tmps[p]?.getD undef = .pointer (some ⟨b, o, none⟩) := by simpa using hp
  simp [results, h, hp', asAddr, run_loadVar_mid w b o ty cs d hc hu hd hi]
theorem RumBox.put {w : World} {b : Nat} {r : Nat → Int} (h : RumBox w b r) {k : Nat} (hk : k < 16) (v : Int) : RumBox (w.setCell ⟨b, k, none⟩ (Value.int .u32 v)) b (fun i => if i = k then v else r i) := fun i hi => by
  show _ = some (Value.int .u32 (if i = k then v else r i))
  by_cases e : i = k
  · subst e; rw [if_pos rfl]; exact World.cell?_setCell_same _ _ _ (h i hi)
  · rw [if_neg e, World.cell?_setCell_other _ _ _ _ (by intro e2; injection e2 with _ e3; exact e e3.symm)]; exact h i hi
theorem RumBox.there {w : World} {b : Nat} {r : Nat → Int} (h : RumBox w b r) (hf : ∀ j, w.frozen? ⟨b, j, none⟩ = false) : w.there b 0 16 := fun j hj => ⟨by rw [Nat.zero_add, h j hj]; rfl, hf _⟩
theorem RL_one (r : Nat → Int) : (RL r).toArray.all (·.oneCell') = true := by rw [RL_arr]; simp [Value.oneCell']
theorem below_setCells {B b : Nat} : ∀ (vs : List Value) (o : Nat) {w0 w : World}, Below B w0 w → B ≤ b → Below B w0 (w.setCells b o vs)
  | [], _, _, _, h, _ => h
  | v :: vs, o, _, _, h, hb => below_setCells vs (o + 1) (h.setCell (by simpa using hb) _) hb
theorem wpList_storeR {ops : Array Oper} {rest : List Oper} {op : Oper} {a : Go.Act} {w : World} {Q : Exit → Go.Act → World → Prop} {x y : Operand} {b : Nat} {r : Nat → Int} (hgd : op.guard = none) (ho : op.op = .store 70 x y)
    (hx : a.eval x = .pointer (some ⟨b, 0, none⟩)) (hy : a.eval y = .agg (RL r).toArray) (ht : w.there b 0 16) (hk : wpList Try.prog ops Q rest (a.put op.dst undef) (w.setCells b 0 (RL r))) : wpList Try.prog ops Q (op :: rest) a w :=
  wpList_store_mid hgd 70 x y ho b 0 (RL r).toArray hx hy ht info70 (RL_one r) hk
theorem zero16 (w : World) : RumBox (w.alloc (.cells #[.int .u32 0, .int .u32 0, .int .u32 0, .int .u32 0, .int .u32 0, .int .u32 0, .int .u32 0, .int .u32 0, .int .u32 0, .int .u32 0, .int .u32 0, .int .u32 0, .int .u32 0, .int .u32 0, .int .u32 0, .int .u32 0] 70)) w.heap.size r0 := RumBox.made w r0
theorem r1_eq : (fun i => if i = 1 then (1 : Int) else r0 i) = r1 := rfl
set_option maxRecDepth 100000 in
set_option maxHeartbeats 6400000 in
theorem with1_any (a : Option Addr) (c : Nat) (w : World) (hrow : PidRow w a [(1, 1)]) : Calls Try.prog 73 #[.agg (RL r0).toArray, .slice a 1 c] w fun e w' => e = .returned (.agg (RL r1).toArray) ∧ Below w.heap.size w w' := by
  have hB2 : Below w.heap.size w ((w.alloc (.cells (RL r0).toArray 70)).alloc (.cells #[.int .u32 0, .int .u32 0, .int .u32 0, .int .u32 0, .int .u32 0, .int .u32 0, .int .u32 0, .int .u32 0, .int .u32 0, .int .u32 0, .int .u32 0, .int .u32 0, .int .u32 0, .int .u32 0, .int .u32 0, .int .u32 0] 70)) := ((Below.refl _ _).alloc (Nat.le_refl _) _).alloc (by simp) _
  have hR2 := (RumBox.madeV w r0).ext (B := w.heap.size + 1) ((Below.refl _ _).alloc (by simp) (.cells #[.int .u32 0, .int .u32 0, .int .u32 0, .int .u32 0, .int .u32 0, .int .u32 0, .int .u32 0, .int .u32 0, .int .u32 0, .int .u32 0, .int .u32 0, .int .u32 0, .int .u32 0, .int .u32 0, .int .u32 0, .int .u32 0] 70)) (by omega)
  have hZ2 := zero16 (w.alloc (.cells (RL r0).toArray 70))
  have hf1 : ∀ j, ((w.alloc (.cells (RL r0).toArray 70)).alloc (.cells #[.int .u32 0, .int .u32 0, .int .u32 0, .int .u32 0, .int .u32 0, .int .u32 0, .int .u32 0, .int .u32 0, .int .u32 0, .int .u32 0, .int .u32 0, .int .u32 0, .int .u32 0, .int .u32 0, .int .u32 0, .int .u32 0] 70)).frozen? ⟨w.heap.size, j, none⟩ = false := fun j => by
    rw [frozen?_alloc_cells, frozen?_alloc_cells]; unfold World.frozen?; rw [Array.getElem?_eq_none (by simp)]
  have hf2 : ∀ j, ((w.alloc (.cells (RL r0).toArray 70)).alloc (.cells #[.int .u32 0, .int .u32 0, .int .u32 0, .int .u32 0, .int .u32 0, .int .u32 0, .int .u32 0, .int .u32 0, .int .u32 0, .int .u32 0, .int .u32 0, .int .u32 0, .int .u32 0, .int .u32 0, .int .u32 0, .int .u32 0] 70)).frozen? ⟨w.heap.size + 1, j, none⟩ = false := fun j => by
    rw [frozen?_alloc_cells, frozen?_alloc_cells]; unfold World.frozen?; rw [Array.getElem?_eq_none (by simp)]
  have hz2 : ((w.alloc (.cells (RL r0).toArray 70)).alloc (.cells #[.int .u32 0, .int .u32 0, .int .u32 0, .int .u32 0, .int .u32 0, .int .u32 0, .int .u32 0, .int .u32 0, .int .u32 0, .int .u32 0, .int .u32 0, .int .u32 0, .int .u32 0, .int .u32 0, .int .u32 0, .int .u32 0] 70)).heap.size = w.heap.size + 1 + 1 := by simp
  simp only [World.size_alloc] at hZ2
  have hu70 := Try.underlying70
  have hi70 := info70L r0
  obtain ⟨pb, po, rfl, hpb, hpc⟩ := hrow.get (by simp)
  obtain ⟨p0, p1⟩ := hpc 0 (by simp)
  simp at p0 p1
  clear hpc
  go_enter Try.func73, Try.ntmps73
  go_wp2
  generalize hw2 : (w.alloc (.cells (RL r0).toArray 70)).alloc (.cells #[.int .u32 0, .int .u32 0, .int .u32 0, .int .u32 0, .int .u32 0, .int .u32 0, .int .u32 0, .int .u32 0, .int .u32 0, .int .u32 0, .int .u32 0, .int .u32 0, .int .u32 0, .int .u32 0, .int .u32 0, .int .u32 0] 70) = w2 at hB2 hR2 hZ2 hf1 hf2 hz2 ⊢
  clear hw2
  have HZ := hid hz2
  clear hz2
  go_loopw [5] (fun i wr => ∃ k : Nat, k ≤ 1 ∧ i = .int .i64 k ∧ RumBox wr w.heap.size (if k = 0 then r0 else r1) ∧ RumBox wr (w.heap.size + 1) r0 ∧ Hid (∀ j, wr.frozen? ⟨w.heap.size, j, none⟩ = false) ∧ Hid (∀ j, wr.frozen? ⟨w.heap.size + 1, j, none⟩ = false) ∧ Below w.heap.size w wr ∧ w.heap.size + 1 < wr.heap.size) (fun i _ => 1 - (intOf i).toNat)
  case atStart => exact ⟨0, by omega, rfl, hR2, hZ2, hf1, hf2, hB2, by have := HZ.out; omega⟩
  case round =>
    obtain ⟨k, hk, rfl, hRk, hZk, hfa, hfb, hb, hs⟩ := hrel
    clear hR2 hZ2 hf1 hf2 hB2
    by_cases h0 : k = 0
    · subst h0
      rw [if_pos rfl] at hRk
      have e0 := cell_to p0 hb
      have e1 := cell_to p1 hb
      have HS : Hid (∀ W, Below wr.heap.size wr W → Below wr.heap.size wr W ∧ W.rangeAt w.heap.size 0 (RL r0) ∧ W.cell? ⟨pb, po, none⟩ = some (.int .u16 1) ∧ W.cell? ⟨pb, po + 1, none⟩ = some (.int .u32 1)) := hid fun W h => ⟨h, (hRk.ext h (by omega)).range, cell_to e0 h, cell_to e1 h⟩
      have C1 : Hid (∀ W, Below wr.heap.size wr W → Calls Try.prog 81 #[.agg #[.int .u16 1, .int .u32 1]] W fun e w' => e = .returned (.bool true) ∧ Below wr.heap.size wr w') := hid fun W h => rel h (mayR_is (hid (by decide))) rfl
      have C2 : Hid (∀ W, Below wr.heap.size wr W → Calls Try.prog 50 #[.agg (RL r0).toArray, .agg #[.int .u16 1, .int .u32 1]] W fun e w' => e = .returned (.bool false) ∧ Below wr.heap.size wr w') := hid fun W h => rel h (hasRef_is (by decide) (by decide) (hid (by decide))) rfl
      have H0 : Below wr.heap.size wr wr.drew := (Below.refl _ _).drew
      go_wp2_with fail
      go_region_held3 (fun W => Below wr.heap.size wr W ∧ W.rangeAt w.heap.size 0 (RL r0) ∧ W.cell? ⟨pb, po, none⟩ = some (.int .u16 1) ∧ W.cell? ⟨pb, po + 1, none⟩ = some (.int .u32 1)) (first | exact HS.out _ H0 | exact HS.out _ (by assumption)) (first | ((go_at_call 81; refine (C1.out _ (by assumption)).mono ?_; rintro e w5 ⟨rfl, hb5⟩)) | ((go_at_call 50; refine (C2.out _ (by assumption)).mono ?_; rintro e w6 ⟨rfl, hb6⟩)))
      have hR6 := hRk.ext hb6 (by omega)
      have k1 : w6.cell? ⟨w.heap.size, 1, none⟩ = some (.int .u32 0) := hR6 1 (by decide)
      have kf : w6.frozen? ⟨w.heap.size, 1, none⟩ = false := (hb6.frozen (p := ⟨w.heap.size, 1, none⟩) (by simp; omega)).trans (hfa.out 1)
      have g0 := cell_to e0 hb6
      have g1 := cell_to e1 hb6
      have G0 : w6.drew.cell? ⟨pb, po, none⟩ = some (.int .u16 1) ∧ w6.drew.cell? ⟨pb, po + 1, none⟩ = some (.int .u32 1) := ⟨g0, g1⟩
      have G1 : ∀ v, (w6.drew.setCell ⟨w.heap.size, 1, none⟩ v).cell? ⟨pb, po, none⟩ = some (.int .u16 1) ∧ (w6.drew.setCell ⟨w.heap.size, 1, none⟩ v).cell? ⟨pb, po + 1, none⟩ = some (.int .u32 1) := fun v =>
        ⟨(World.cell?_setCell_other _ _ _ _ (by intro e; injection e with e2; omega)).trans g0, (World.cell?_setCell_other _ _ _ _ (by intro e; injection e with e2; omega)).trans g1⟩
      have HG1 := hid G1
      have HR6 := hid hR6
      have hb06 := hb.trans (hb6.mono hb.size)
      have HF1 : Hid (∀ j, w6.frozen? ⟨w.heap.size, j, none⟩ = false) := hid fun j => (hb6.frozen (p := ⟨w.heap.size, j, none⟩) (by simp; omega)).trans (hfa.out j)
      have HF2 : Hid (∀ j, w6.frozen? ⟨w.heap.size + 1, j, none⟩ = false) := hid fun j => (hb6.frozen (p := ⟨w.heap.size + 1, j, none⟩) (by simp; omega)).trans (hfb.out j)
      have HZ6 := hid (hZk.ext hb6 (by omega))
      have hs6 : w.heap.size + 1 < w6.heap.size := by have := hb6.size; omega
      clear hRk hZk hfa hfb hb hb6 e0 e1 HS C1 C2 H0 hR6 G1
      go_wp2_with fail
      go_region_held3 (fun W => W.cell? ⟨pb, po, none⟩ = some (.int .u16 1) ∧ W.cell? ⟨pb, po + 1, none⟩ = some (.int .u32 1)) (first | exact G0 | exact HG1.out _) (fail)
      go_wp2_with fail
      go_roundw
      case rel => exact ⟨1, by omega, by go_num, HR6.out.put (k := 1) (by decide) 1, fun i hi => (World.cell?_setCell_other _ _ _ _ (by intro e; injection e with e2; omega)).trans (HZ6.out i hi), hid (fun j => by simpa using HF1.out j), hid (fun j => by simpa using HF2.out j), (hb06.setCell (Nat.le_refl _) _).drew, by simpa using hs6⟩
      case measure => simp [intOf]
    · obtain rfl : k = 1 := by omega
      rw [if_neg h0] at hRk
      have HRK := hid hRk
      have ht := RumBox.there hZk hfb.out
      go_wp2_with (first | (refine wpList_loadRw hRk (by rfl) rfl rfl ?_) | (refine wpList_storeR (r := r1) rfl rfl rfl rfl ht ?_))
      refine bodyPost_ret (v := .agg (RL r1).toArray) (results_cell_mid (p := 4) (ty := 70) rfl _ _ (w.heap.size + 1) 0 (RL r1) _ rfl (World.rangeAt_setCells_same _ _ _ _ ht) Try.underlying70 rfl (info70L r1)) rfl ⟨rfl, below_setCells _ _ hb (by omega)⟩
end Go.Proofs.Ytjjahefedpfnaaa
