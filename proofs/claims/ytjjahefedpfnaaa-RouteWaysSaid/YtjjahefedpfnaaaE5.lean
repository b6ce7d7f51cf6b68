import Derived.Test.YtjjahefedpfnaaaE4
import Derived.Test.YtjjahefedpfnaaaOpenC
import Derived.Deep.MidRow
import Derived.Deep.RegionHeld3
namespace Go.Proofs.Ytjjahefedpfnaaa
open Go.RowKit
/-- a rumor's cells -/
def RL (r : Nat → Int) : List Value := (rumC r).toList
theorem RL_arr (r : Nat → Int) : (RL r).toArray = rumC r := rfl
theorem RL_len (r : Nat → Int) : (RL r).length = 16 := rfl
theorem info70 : (Try.prog.info? 70).map (·.size) = some 16 := by kernel_rfl
theorem info70L (r : Nat → Int) : (Try.prog.info? 70).map (·.size) = some (RL r).length := info70
theorem RumBox.range {w : World} {b : Nat} {r : Nat → Int} (h : RumBox w b r) : w.rangeAt b 0 (RL r) := fun j v hv => by
  have hj : j < 16 := by have := (List.getElem?_eq_some_iff.1 hv).1; simpa [RL] using this
  rw [Nat.zero_add, h j hj]
  have := rumC_get r hj
  unfold RL at hv
  rw [Array.getElem?_toList] at hv
  rw [← hv, this]
theorem RumBox.madeV (w : World) (r : Nat → Int) : RumBox (w.alloc (.cells (RL r).toArray 70)) w.heap.size r := RumBox.made w r
theorem wpList_loadR {ops : Array Oper} {rest : List Oper} {op : Oper} {a : Go.Act} {w : World} {Q : Exit → Go.Act → World → Prop} {x : Operand} {b : Nat} {r : Nat → Int} (h : RumBox w b r) (hgd : op.guard = none) (ho : op.op = .load 70 x)
    (hx : a.eval x = .pointer (some ⟨b, 0, none⟩)) (hk : wpList Try.prog ops Q rest (a.put op.dst (.agg (RL r).toArray)) w) : wpList Try.prog ops Q (op :: rest) a w :=
  wpList_load_mid hgd 70 x ho b 0 hx (RL r) _ h.range Try.underlying70 rfl (info70L r) hk
theorem firstV_is {r : Nat → Int} {a : Option Addr} {c : Nat} {xs : List Pid} {w : World} {o : Option Pid} (h : Hid (firstP (hasRu r) xs = o)) (hwf : WfPids xs) (hn : xs.length ≤ 549755813888) (hrow : PidRow w a xs) :
    Calls Try.prog 74 #[.agg (RL r).toArray, .slice a xs.length c] w fun e w' => e = .returned (optV o) ∧ Below w.heap.size w w' := by
  have := first_any r a c xs w hwf hn hrow
  rw [h.out] at this; exact this
/-- what is known of a view -/
structure Fine (V : View) : Prop where
  wf : WfView V
  ls : ∀ l ∈ V.ls, l.length ≤ 549755813888
  ds : V.ds.length ≤ 549755813888
  ms : V.ms.length ≤ 549755813888
  nl : V.ls.length ≤ 549755813888
abbrev vcells (V : View) (am al ad : Option Addr) (cm cl cd : Nat) : Array Value := #[.int .u64 V.id, .slice am V.ms.length cm, .slice al V.ls.length cl, .slice ad V.ds.length cd]

set_option maxRecDepth 100000 in
set_option maxHeartbeats 1600000 in
theorem chiefA_any (r : Nat → Int) (V : View) (am al ad : Option Addr) (cm cl cd : Nat) (w : World) (hV : ViewR w am al ad V) (hf : Fine V) :
    Calls Try.prog 47 #[viewV V am al ad cm cl cd, .agg (RL r).toArray] w fun e w' => e = .returned (optV (chiefP V (hasRu r))) ∧ Below w.heap.size w w' := by
  obtain ⟨o, ho⟩ : ∃ o, chiefP V (hasRu r) = o := ⟨_, rfl⟩
  rw [ho]
  have HO := hid ho
  clear ho
  have hB3 : Below w.heap.size w (((w.alloc (.cells (vcells V am al ad cm cl cd) 68)).alloc (.cells (RL r).toArray 70)).alloc (.cells #[.int .u16 0, .int .u32 0] 32)) := (((Below.refl _ _).alloc (Nat.le_refl _) _).alloc (by simp) _).alloc (by simp; omega) _
  have hR3 := (RumBox.madeV (w.alloc (.cells (vcells V am al ad cm cl cd) 68)) r).ext (B := w.heap.size + 1 + 1) ((Below.refl _ _).alloc (by simp) (.cells #[.int .u16 0, .int .u32 0] 32)) (by simp)
  have hbx := Box2.made ((w.alloc (.cells (vcells V am al ad cm cl cd) 68)).alloc (.cells (RL r).toArray 70)) (v0 := .int .u16 0) (v1 := .int .u32 0) 32
  have hV3 := hV.ext hB3
  simp only [World.size_alloc] at hR3
  go_enter Try.func47, Try.ntmps47
  go_wp2_with (first
    | (refine wpList_loadR hR3 rfl rfl rfl ?_)
    | (go_at_call 74; refine (firstV_is HO hf.wf.ds hf.ds hV3.ds).mono ?_; rintro e w4 ⟨rfl, hb4⟩; obtain ⟨y0, y1, y2, y3⟩ := hbx.ext hb4; simp only [World.size_alloc] at y0 y1 y2 y3))
  obtain ⟨t0, t1⟩ := two_cell (x := .int .u16 (optP o).1.1) (y := .int .u32 (optP o).1.2) y0 y1
  exact bodyPost_ret (v := optV o) (by simp [results, Try.results47, go_sem, t0, t1]) rfl ⟨rfl, below_put (hB3.trans (hb4.mono hB3.size)) (by omega) _ _⟩
end Go.Proofs.Ytjjahefedpfnaaa
