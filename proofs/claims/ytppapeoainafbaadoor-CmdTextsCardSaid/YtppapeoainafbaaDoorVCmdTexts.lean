/- For every input, choraguslaw CmdTexts returns true, and each argument reads afterwards as it read before; no condition. -/
import Derived.Test.YtppapeoainafbaaDoorRows
import Derived.Test.YtppapeoainafbaaDoorCards
import Derived.Test.YtppapeoainafbaaDoorTie
import Derived.ChangeOld
import Derived.Deep.DeepHandedRow
import Derived.Deep.DeepWitnessRowRef
import Derived.Lay
import Derived.Stop.LaidErr
import Derived.Shelf.Vars
import Derived.ChangeMaps5
import Derived.Test.YtppapeoainafbaaDoorGCmdTexts10
namespace Go.Proofs.YtppapeoainafbaaDoor.CmdTextsProof
open Go.ChangeShapes Go.WideShapes Go.ChangeAt Go.RowKit

theorem own : ownKnob Tryd.prog.godebug = none := by kernel_rfl
theorem laidOut : laidOutB Tryd.prog = true := by kernel_rfl
abbrev wargs : Array Value := #[.agg #[.int .i64 0, .int .u16 0, .int .u32 0, .int .u64 0, .int .u64 0, .slice none 0 0, .int .u64 0, .slice none 0 0, .slice none 0 0, .slice none 0 0], .agg #[.int .i64 0, .int .u16 0, .int .u32 0, .int .u64 0, .int .u64 0, .slice none 0 0, .int .u64 0, .slice none 0 0, .slice none 0 0, .slice none 0 0]]
def zd {H : Type} : DataW H := .agg [.lit (.int .i64 0), .agg [.lit (.int .u16 0), .lit (.int .u32 0)], .lit (.int .u64 0), .lit (.int .u64 0), .nil, .agg [.lit (.int .u64 0), .nil, .nil, .nil]]
theorem laid_met (os : Os) : laidMet Tryd.prog Rows.cmdTextsRow.laid ((World.laidAll Tryd.prog os Rows.cmdTextsRow.laid).forCall (fun _ _ => 0) ⟨#[], wargs, []⟩).memory :=
  laidMet_laidAll _ (by kernel_rfl) (by kernel_rfl)
theorem reads (os : Os) {H : Type} (enc : TypeId × Value → H) : DataW.whole enc Tryd.prog ((World.laidAll Tryd.prog os Rows.cmdTextsRow.laid).forCall (fun _ _ => 0) ⟨#[], wargs, []⟩).memory Tryd.f4.params.toList Rows.cmdTextsSpec.vars false wargs.toList 8 = some ([zd, zd], [], []) := by kernel_rfl
/-! what the laid variables give -/
theorem gTab : Tryd.prog.globalNamed "internal/strconv.uint64pow10" = some 0 := by kernel_rfl
theorem tab_of {W : World} (hL : laidMet Tryd.prog Rows.cmdTextsRow.laid W) : TabOk W :=
  Lib.tabIs_of_head (t := 121) (e := 34) (n := 20) gTab (by kernel_rfl) (by kernel_rfl) Tryd.underlying34 (by kernel_rfl) (by kernel_rfl) hL.tail.tail

set_option maxRecDepth 100000 in
theorem lifted (os : Os) (started : os.Started) (H : Type) (enc : TypeId × Value → H) (F : Stop.Interp) :
    ReturnsInHanded {} Tryd.checked os 4 .any ((OpenSpec.ofChange Rows.cmdTextsSpec).preRow enc Tryd.prog Tryd.f4 Rows.cmdTextsRow.domain false Rows.cmdTextsRow.laid) (((OpenSpec.ofChange Rows.cmdTextsSpec).at F).post enc Tryd.prog Tryd.f4 false true false false) := by
  refine returnsInHanded_of_row (C := Tryd.checked) (s := OpenSpec.ofChange Rows.cmdTextsSpec) own started (by kernel_rfl) Tryd.func4
    (witness_row_atRef (enc := enc) (C := Tryd.checked) false (World.laidAll Tryd.prog os Rows.cmdTextsRow.laid) wargs (World.laidAll_os _ _ _) (by kernel_rfl) (by kernel_rfl) (by kernel_rfl)
      (OpenSpec.preRow_of_cond 8 (reads os enc) (by kernel_rfl) (fun k hk => by cases hk) (by kernel_rfl) (laid_met os))) ?_
  intro W base args ds gs before hval0 hW _ _ hsz0 hL _ _
  rw [MakeChecks.laidMetH_plain _ _ _ (by kernel_rfl)] at hL
  have hT := tab_of hL
  have hval : ∀ (j : Nat) t v, Tryd.f4.params[j]? = some t → args[j]? = some v → Value.okWide Tryd.prog W .any base t v := hval0
  have hsz : (DataW.weightsEach Tryd.prog (Tryd.f4.params.toList ++ Rows.cmdTextsSpec.plain.varTypes Tryd.prog) (ds ++ gs)).all (· ≤ reachBytes) = true := hsz0
  have hW' := hW
  obtain ⟨p, q, hA0, hV, rfl, hfz, hnd⟩ := hW
  have hA : DataW.TrodAll enc Tryd.prog W 0 (fun _ => true) true Tryd.f4.params.toList args.toList ds p := hA0
  rw [Tryd.params4] at hA hval hsz
  obtain ⟨v0, vs0, d0, ds0, p0, q0, hargs, rfl, rfl, h0, r0⟩ := trodAll_cons hA
  obtain ⟨v1, vs1, d1, ds1, p1, q1, rfl, rfl, rfl, h1, r1⟩ := trodAll_cons r0
  obtain ⟨rfl, rfl, rfl⟩ := trodAll_nil r1
  obtain rfl : args = #[v0, v1] := by cases args; simp_all
  obtain ⟨rfl, rfl⟩ := trodVars_none hV
  have k0 := h0
  have lt0 : ∀ x ∈ p0, x.block < W.heap.size := by obtain ⟨m, hm⟩ := k0; exact DataW.trod_lt m _ _ _ hm
  obtain ⟨A0, da0, am0, al0, ad0, dc0, cm0, cl0, cd0, rfl, hdr0, hdb0, hR0, hwf0, hfr0, hn0, hvw0⟩ := open_cmd (hval 0 41 v0 rfl rfl) h0 (Sz.arg hsz (j := 0) (t := 41) rfl rfl)
  have k1 := h1
  have lt1 : ∀ x ∈ p1, x.block < W.heap.size := by obtain ⟨m, hm⟩ := k1; exact DataW.trod_lt m _ _ _ hm
  obtain ⟨A1, da1, am1, al1, ad1, dc1, cm1, cl1, cd1, rfl, hdr1, hdb1, hR1, hwf1, hfr1, hn1, hvw1⟩ := open_cmd (hval 1 41 v1 rfl rfl) h1 (Sz.arg hsz (j := 1) (t := 41) rfl rfl)
  clear hA0 hval0 hsz0
  refine (cmdTexts_law ⟨hdr0, hdb0, hR0, hwf0, hfr0, hn0, hvw0⟩ ⟨hdr1, hdb1, hR1, hwf1, hfr1, hn1, hvw1⟩ hT).mono fun e W' ⟨he, bel⟩ => ?_
  subst he
  exact ⟨_, rfl, _, _, _, [], _, [], hW', trodAll_mk1 (shut_bool Tryd.underlying4 _), (trodAll_cons_mk (Below.trod laidOut (by kernel_rfl) (of_decide_eq_true (by kernel_rfl)) k0 bel lt0) (trodAll_cons_mk (Below.trod laidOut (by kernel_rfl) (of_decide_eq_true (by kernel_rfl)) k1 bel lt1) trodAll_mk0)), rfl, bel.frame _, fun h => by cases h⟩

theorem said : Rows.CmdTextsSaid :=
  OpenClaim.holds_of_cond 4 Tryd.f4 rfl rfl rfl rfl rfl rfl rfl ⟨rfl, rfl, rfl, rfl, rfl⟩ rfl rfl rfl rfl rfl (by kernel_rfl) Tryd.func4 (by kernel_rfl)
    (of_decide_eq_true (by kernel_rfl)) (by unfold Func.isWrapper; first | (rw [if_pos (by decide +kernel)]; kernel_rfl) | (rw [if_neg (by decide +kernel)]; exact ⟨rfl, rfl⟩))
    (fun os started H enc _ F => by rw [OpenClaim.pre_eq_preRow]; exact lifted os started H enc F)
/-- No parameter wants a stand-in; the program's own looks are off. -/
theorem plain (f : FuncId) (fn : Func) (hf : Tryd.pinned.checked.prog.funcNamed "choragus/choraguslaw09.CmdTexts" = some f) (hfn : Tryd.pinned.checked.prog.funcs[f]? = some fn) :
    true = Tryd.pinned.checked.prog.looks [] ∧ ∀ (j : Nat) t, fn.params[j]? = some t → Tryd.pinned.checked.prog.wantsStandIn t = false := by
  obtain rfl : f = 4 := Option.some.inj ((show Tryd.prog.funcNamed "choragus/choraguslaw09.CmdTexts" = some 4 by kernel_rfl).symm.trans hf) |>.symm
  obtain rfl : fn = Tryd.f4 := (Option.some.inj (Tryd.func4.symm.trans hfn)).symm
  refine ⟨by kernel_rfl, fun j t ht => ?_⟩
  rw [Tryd.params4] at ht
  have hm : t = 41 := by simpa using Array.mem_of_getElem? ht
  subst hm
  exact (show Tryd.prog.wantsStandIn 41 = false by kernel_rfl)
theorem card : Rows.CmdTextsCardSaid :=
  Claim7.holds_tied_plain_at .later [] _ _ _ _ said (fun _ h => by cases h) (by kernel_rfl) (fun _ h => by cases h) cmdTexts_row_tie rfl ⟨rfl, rfl⟩ (by kernel_rfl) rfl plain (by kernel_rfl)
end Go.Proofs.YtppapeoainafbaaDoor.CmdTextsProof
namespace Go.Proofs.YtppapeoainafbaaDoor
theorem cmdTexts_holds : Rows.CmdTextsCardSaid := CmdTextsProof.card
#print axioms cmdTexts_holds
end Go.Proofs.YtppapeoainafbaaDoor

