/- For every input, choraguslaw MsgWhole returns true, and each argument reads afterwards as it read before; no condition. -/
import Derived.Test.YtbpfhclcjedkcaaRows
import Derived.ShutString
import Derived.ChangeOld
import Derived.Test.YtbpfhclcjedkcaaJMsgWhole
import Derived.Test.YtbpfhclcjedkcaaSm49
import Derived.Test.YtbpfhclcjedkcaaSm50
namespace Go.Proofs.Ytbpfhclcjedkcaa.MsgWholeProof
open Go.ChangeShapes Go.WideShapes Go.ChangeAt Go.RowKit

theorem own : ownKnob Try.prog.godebug = none := by kernel_rfl
theorem laidOut : laidOutB Try.prog = true := by kernel_rfl

set_option maxRecDepth 100000 in
theorem lifted (os : Os) (started : os.Started) (H : Type) (enc : TypeId × Value → H) :
    ReturnsInHanded {} Try.checked os 8 .any (Rows.msgWholeSpec.pre6 enc Try.prog Try.f8 Rows.msgWholeRow.domain false) (Rows.msgWholeSpec.post enc Try.prog Try.f8 false true false false) := by
  refine returnsInHanded_of_change_sized (C := Try.checked) own started (by kernel_rfl) Try.func8
    (ChangeSpec.witness6 (enc := enc) (C := Try.checked) false ⟨#[], #[.agg #[.int .i64 0, .int .u16 0, .int .u32 0, .int .u64 0, .int .u64 0, .int .u64 0, .int .i64 0, .int .u32 0, .int .u16 0, .int .u32 0, .int .u32 0, .int .u16 0, .int .u32 0, .bool false, .int .i64 0, .int .u16 0, .int .u32 0, .int .u64 0, .int .u64 0, .slice none 0 0, .int .u64 0, .slice none 0 0, .slice none 0 0, .slice none 0 0, .int .u64 0, .slice none 0 0, .slice none 0 0, .slice none 0 0, .slice none 0 0], .int .i64 0, .int .u8 0], []⟩ 8 (by kernel_rfl) (by kernel_rfl) (by kernel_rfl) (by kernel_rfl)) ?_
  intro W base args ds gs before hval0 hW hcnd hsz0 _
  have hval : ∀ (j : Nat) t v, Try.f8.params[j]? = some t → args[j]? = some v → Value.okWide Try.prog W .any base t v := hval0
  have hsz : (DataW.weightsEach Try.prog (Try.f8.params.toList ++ Rows.msgWholeSpec.plain.varTypes Try.prog) (ds ++ gs)).all (· ≤ reachBytes) = true := hsz0
  have hW' := hW
  obtain ⟨p, q, hA0, hV, rfl, hfz, hnd⟩ := hW
  have hA : DataW.TrodAll enc Try.prog W 0 (fun _ => true) true Try.f8.params.toList args.toList ds p := hA0
  rw [Try.params8] at hA hval hsz
  obtain ⟨v0, vs0, d0, ds0, p0, q0, hargs, rfl, rfl, h0, r0⟩ := trodAll_cons hA
  obtain ⟨v1, vs1, d1, ds1, p1, q1, rfl, rfl, rfl, h1, r1⟩ := trodAll_cons r0
  obtain ⟨v2, vs2, d2, ds2, p2, q2, rfl, rfl, rfl, h2, r2⟩ := trodAll_cons r1
  obtain ⟨rfl, rfl, rfl⟩ := trodAll_nil r2
  obtain rfl : args = #[v0, v1, v2] := by cases args; simp_all
  obtain ⟨rfl, rfl⟩ := trodVars_none hV
  have k0 := h0
  have lt0 : ∀ x ∈ p0, x.block < W.heap.size := by obtain ⟨m, hm⟩ := k0; exact DataW.trod_lt m _ _ _ hm
  obtain ⟨A0, m0, rfl, hM0⟩ := open_msg (hval 0 46 v0 rfl rfl) h0 (Sz.arg hsz (j := 0) (t := 46) rfl rfl)
  obtain ⟨x1, rfl, rfl, rfl, wx1⟩ := open_int Try.underlying3 (hval 1 3 v1 rfl rfl) h1
  have hwf1 := bounds_i64 wx1
  obtain ⟨x2, rfl, rfl, rfl, wx2⟩ := open_int Try.underlying5 (hval 2 5 v2 rfl rfl) h2
  have hwf2 := bounds_u8 wx2
  clear hA0 hval0 hsz0
  refine (msgWhole_law hM0 hwf1 hwf2).mono fun e W' ⟨he, bel⟩ => ?_
  subst he
  exact ⟨_, rfl, _, _, _, [], _, [], hW', trodAll_mk1 (shut_bool Try.underlying4 _), (trodAll_cons_mk (Below.trod laidOut (by kernel_rfl) (of_decide_eq_true (by kernel_rfl)) k0 bel lt0) (trodAll_cons_mk (shut_int Try.underlying3 wx1) (trodAll_cons_mk (shut_int Try.underlying5 wx2) trodAll_mk0))), rfl, bel.frame _, fun h => by cases h⟩

theorem over : Rows.msgWholeRow.holds Try.pinned (OpenSpec.ofChange Rows.msgWholeSpec) :=
  OpenClaim.holds_of_wide 8 Try.f8 rfl rfl rfl rfl rfl rfl rfl ⟨rfl, rfl, rfl, rfl, rfl⟩ rfl rfl rfl rfl rfl (by kernel_rfl) Try.func8 closed
    (of_decide_eq_true (by kernel_rfl)) (by unfold Func.isWrapper; first | (rw [if_pos (by decide +kernel)]; kernel_rfl) | (rw [if_neg (by decide +kernel)]; exact ⟨rfl, rfl⟩))
    (fun os started H enc _ => lifted os started H enc)
end Go.Proofs.Ytbpfhclcjedkcaa.MsgWholeProof
namespace Go.Proofs.Ytbpfhclcjedkcaa
theorem msgWhole_holds : Rows.MsgWholeSaid := MsgWholeProof.over
#print axioms msgWhole_holds
end Go.Proofs.Ytbpfhclcjedkcaa

