/- For every input, choraguslaw30.PlayReports returns true, and each argument reads afterwards as it read before; no condition. -/
import Derived.Test.YtehagnbphamjhaaGreatDoorGPlayReports51
namespace Go.Proofs.YtehagnbphamjhaaGreatDoor.PlayReportsProof
open Go.ChangeShapes Go.WideShapes Go.ChangeAt Go.RowKit
abbrev wargs : Array Value := #[.slice none 0 0]
theorem reads (os : Os) {H : Type} (enc : TypeId × Value → H) : DataW.whole enc Tryz.prog ((World.laidAll Tryz.prog os Rows.playReportsRow.laid).forCall (fun _ _ => 0) ⟨#[], wargs, []⟩).memory Tryz.f3.params.toList Rows.playReportsSpec.vars false wargs.toList 8 = some ([.nil], [], []) := by kernel_rfl
theorem env_of {W : World} (hL : laidMet Tryz.prog Rows.playReportsRow.laid W) (hsh : W.ShapedOpen Tryz.prog) : EnvP W := by
  obtain ⟨m, hm⟩ := Go.Proofs.cell_of_shapedOpen_int (g := 1) (t := 3) (zero := #[.int .i64 0]) (k := .i64) hsh (of_decide_eq_true (by kernel_rfl)) (by kernel_rfl) rfl (by kernel_rfl) (by kernel_rfl) Tryz.underlying3
  have hT : TabOk W := Lib.tabIs_of_head (t := 205) (e := 27) (n := 20) pf_gTab (by kernel_rfl) (by kernel_rfl) Tryz.underlying27 (by kernel_rfl) (by kernel_rfl) hL.tail.tail.tail.tail
  obtain ⟨a1, s1, hv1, -, -, -⟩ := laid_sentinel hL.tail.tail pf_gES pf_gESType Tryz.underlying67 pf_rowP Tryz.underlying365 Tryz.underlying367 rfl rfl Tryz.underlying9 pf_cellsE pf_cells9
  obtain ⟨a2, s2, hv2, -, -, -⟩ := laid_sentinel hL.tail.tail.tail pf_gER pf_gERType Tryz.underlying67 pf_rowP Tryz.underlying365 Tryz.underlying367 rfl rfl Tryz.underlying9 pf_cellsE pf_cells9
  exact ⟨hT, ⟨_, _, hv1⟩, ⟨_, _, hv2⟩, ⟨m, hm⟩⟩
set_option maxRecDepth 100000 in
theorem lifted (os : Os) (started : os.Started) (H : Type) (enc : TypeId × Value → H) (F : Stop.Interp) :
    ReturnsInHanded {} Tryz.checked os 3 .any ((OpenSpec.ofChange Rows.playReportsSpec).preRow enc Tryz.prog Tryz.f3 Rows.playReportsRow.domain false Rows.playReportsRow.laid) (((OpenSpec.ofChange Rows.playReportsSpec).at F).post enc Tryz.prog Tryz.f3 false true false false) := by
  refine returnsInHanded_of_row (C := Tryz.checked) (s := OpenSpec.ofChange Rows.playReportsSpec) pf_own started (by kernel_rfl) Tryz.func3
    (witness_row_atRef (enc := enc) (C := Tryz.checked) false (World.laidAll Tryz.prog os Rows.playReportsRow.laid) wargs (World.laidAll_os _ _ _) (playReports_vref os) (playReports_heap os) (playReports_okw os)
      (OpenSpec.preRow_of_cond 8 (reads os enc) (by kernel_rfl) (fun k hk => by cases hk) (by kernel_rfl) (playReports_met os))) ?_
  intro W base args ds gs before hval0 hW _ _ hsz0 hL hsh _
  rw [MakeChecks.laidMetH_plain _ _ _ (by kernel_rfl)] at hL
  have hE := env_of hL hsh
  have hval : ∀ (j : Nat) t v, Tryz.f3.params[j]? = some t → args[j]? = some v → Value.okWide Tryz.prog W .any base t v := hval0
  have hsz : (DataW.weightsEach Tryz.prog (Tryz.f3.params.toList ++ Rows.playReportsSpec.plain.varTypes Tryz.prog) (ds ++ gs)).all (· ≤ reachBytes) = true := hsz0
  have hW' := hW
  obtain ⟨p, q, hA0, hV, rfl, hfz, hnd⟩ := hW
  have hA : DataW.TrodAll enc Tryz.prog W 0 (fun _ => true) true Tryz.f3.params.toList args.toList ds p := hA0
  rw [Tryz.params3] at hA hval hsz
  obtain ⟨v0, vs0, d0, ds0, p0, q0, hargs, rfl, rfl, h0, r0⟩ := trodAll_cons hA
  obtain ⟨rfl, rfl, rfl⟩ := trodAll_nil r0
  obtain rfl : args = #[v0] := by cases args; simp_all
  obtain ⟨rfl, rfl⟩ := trodVars_none hV
  have k0 := h0
  have lt0 : ∀ x ∈ p0, x.block < W.heap.size := by obtain ⟨m, hm⟩ := k0; exact DataW.trod_lt m _ _ _ hm
  obtain ⟨a, cp, xs, rfl, hrow, hcap, hlen⟩ := open_lives (hval 0 22 v0 rfl rfl) h0 (Sz.arg hsz (j := 0) (t := 22) rfl rfl)
  clear hA0 hval0 hsz0
  refine (playReports_law hrow hlen hE).mono fun e W' ⟨he, bel⟩ => ?_
  subst he
  exact ⟨_, rfl, _, _, _, [], _, [], hW', trodAll_mk1 (shut_bool Tryz.underlying4 _), (trodAll_cons_mk (Below.trod pf_laidOut (by kernel_rfl) (of_decide_eq_true (by kernel_rfl)) k0 bel lt0) trodAll_mk0), rfl, bel.frame _, fun h => by cases h⟩
set_option maxRecDepth 100000 in
theorem joined : joinedFacts Tryz.pinned.checked.prog 3 Tryz.f3 (OpenSpec.ofChange Rows.playReportsSpec).bare Rows.playReportsRow = true := by
  unfold joinedFacts
  simp only [Bool.and_eq_true]
  exact ⟨⟨⟨⟨⟨⟨⟨⟨⟨⟨⟨⟨⟨⟨⟨⟨⟨⟨⟨⟨⟨⟨⟨⟨⟨⟨⟨⟨⟨⟨⟨playReports_j1, pf_laidOut⟩, pf_mapsRowed⟩, playReports_j4⟩, playReports_j5⟩, playReports_j6⟩, pf_s2⟩, playReports_j8⟩, pf_s4⟩, playReports_j10⟩, playReports_j11⟩, playReports_j12⟩, playReports_j13⟩, playReports_j14⟩, playReports_j15⟩, playReports_j16⟩, playReports_j17⟩, playReports_j17b⟩, playReports_j18⟩, playReports_j19⟩, playReports_j20⟩, playReports_j21⟩, playReports_j22⟩, playReports_j23⟩, pf_heard⟩, pf_enter⟩, playReports_j24⟩, playReports_j25⟩, playReports_j26⟩, playReports_j27⟩, playReports_j28⟩, playReports_j29⟩
theorem said : Rows.PlayReportsSaid :=
  OpenClaim.holds_of_cond 3 Tryz.f3 rfl rfl rfl rfl rfl rfl rfl ⟨rfl, rfl, rfl, rfl, rfl⟩ rfl rfl rfl rfl rfl playReports_fnm Tryz.func3 joined
    (of_decide_eq_true (by kernel_rfl)) (by unfold Func.isWrapper; first | (rw [if_pos (by decide +kernel)]; kernel_rfl) | (rw [if_neg (by decide +kernel)]; exact ⟨rfl, rfl⟩))
    (fun os started H enc _ F => by rw [OpenClaim.pre_eq_preRow]; exact lifted os started H enc F)
/-- No parameter wants a stand-in; the program's own looks are off. -/
theorem plain (f : FuncId) (fn : Func) (hf : Tryz.pinned.checked.prog.funcNamed "choragus/choraguslaw30.PlayReports" = some f) (hfn : Tryz.pinned.checked.prog.funcs[f]? = some fn) :
    true = Tryz.pinned.checked.prog.looks [] ∧ ∀ (j : Nat) t, fn.params[j]? = some t → Tryz.pinned.checked.prog.wantsStandIn t = false := by
  obtain rfl : f = 3 := Option.some.inj (playReports_fnm.symm.trans hf) |>.symm
  obtain rfl : fn = Tryz.f3 := (Option.some.inj (Tryz.func3.symm.trans hfn)).symm
  refine ⟨pf_looks, fun j t ht => ?_⟩
  rw [Tryz.params3] at ht
  have hm : t = 22 := by simpa using Array.mem_of_getElem? ht
  subst hm
  exact (show Tryz.prog.wantsStandIn 22 = false by kernel_rfl)
theorem card : Rows.PlayReportsCardSaid :=
  Claim7.holds_tied_plain_at .later [] _ _ _ _ said (fun _ h => by cases h) playReports_wft (fun _ h => by cases h) playReports_row_tieZ rfl ⟨rfl, rfl⟩ pf_main rfl plain (goesBy_none tz_go _ rfl)
end Go.Proofs.YtehagnbphamjhaaGreatDoor.PlayReportsProof
namespace Go.Proofs.YtehagnbphamjhaaGreatDoor
theorem playReports_holds : Rows.PlayReportsCardSaid := PlayReportsProof.card
#print axioms playReports_holds
end Go.Proofs.YtehagnbphamjhaaGreatDoor

