/- For every input, choraguslaw30.PlayBack returns true, and each argument reads afterwards as it read before; no condition. -/
import Derived.Test.YtehagnbphamjhaaGreatDoorTie
import Derived.Test.YtehagnbphamjhaaGreatDoorGPlayBack37
namespace Go.Proofs.YtehagnbphamjhaaGreatDoor.PlayBackProof
open Go.ChangeShapes Go.WideShapes Go.ChangeAt Go.RowKit
abbrev wargs : Array Value := #[.slice none 0 0, .string ⟨#[]⟩]
theorem reads (os : Os) {H : Type} (enc : TypeId × Value → H) : DataW.whole enc Tryz.prog ((World.laidAll Tryz.prog os Rows.playBackRow.laid).forCall (fun _ _ => 0) ⟨#[], wargs, []⟩).memory Tryz.f6.params.toList Rows.playBackSpec.vars false wargs.toList 8 = some ([.nil, .lit (.string [])], [], []) := by kernel_rfl
theorem env_of {W : World} (hL : laidMet Tryz.prog Rows.playBackRow.laid W) (hsh : W.ShapedOpen Tryz.prog) : EnvP W := by
  obtain ⟨m, hm⟩ := Go.Proofs.cell_of_shapedOpen_int (g := 1) (t := 3) (zero := #[.int .i64 0]) (k := .i64) hsh (of_decide_eq_true (by kernel_rfl)) (by kernel_rfl) rfl (by kernel_rfl) (by kernel_rfl) Tryz.underlying3
  have hT : TabOk W := Lib.tabIs_of_head (t := 205) (e := 27) (n := 20) pf_gTab (by kernel_rfl) (by kernel_rfl) Tryz.underlying27 (by kernel_rfl) (by kernel_rfl) hL.tail.tail
  obtain ⟨a1, s1, hv1, -, -, -⟩ := laid_sentinel hL.tail.tail.tail.tail.tail pf_gES pf_gESType Tryz.underlying67 pf_rowP Tryz.underlying365 Tryz.underlying367 rfl rfl Tryz.underlying9 pf_cellsE pf_cells9
  obtain ⟨a2, s2, hv2, -, -, -⟩ := laid_sentinel hL.tail.tail.tail.tail pf_gER pf_gERType Tryz.underlying67 pf_rowP Tryz.underlying365 Tryz.underlying367 rfl rfl Tryz.underlying9 pf_cellsE pf_cells9
  exact ⟨hT, ⟨_, _, hv1⟩, ⟨_, _, hv2⟩, ⟨m, hm⟩⟩
set_option maxRecDepth 100000 in
theorem lifted (os : Os) (started : os.Started) (H : Type) (enc : TypeId × Value → H) (F : Stop.Interp) :
    ReturnsInHanded {} Tryz.checked os 6 .any ((OpenSpec.ofChange Rows.playBackSpec).preRow enc Tryz.prog Tryz.f6 Rows.playBackRow.domain false Rows.playBackRow.laid) (((OpenSpec.ofChange Rows.playBackSpec).at F).post enc Tryz.prog Tryz.f6 false true false false) := by
  refine returnsInHanded_of_row (C := Tryz.checked) (s := OpenSpec.ofChange Rows.playBackSpec) pf_own started (by kernel_rfl) Tryz.func6
    (witness_row_atRef (enc := enc) (C := Tryz.checked) false (World.laidAll Tryz.prog os Rows.playBackRow.laid) wargs (World.laidAll_os _ _ _) (playBack_vref os) (playBack_heap os) (playBack_okw os)
      (OpenSpec.preRow_of_cond 8 (reads os enc) (by kernel_rfl) (fun k hk => by cases hk) (by kernel_rfl) (playBack_met os))) ?_
  intro W base args ds gs before hval0 hW _ _ hsz0 hL hsh _
  rw [MakeChecks.laidMetH_plain _ _ _ (by kernel_rfl)] at hL
  have hE := env_of hL hsh
  have hval : ∀ (j : Nat) t v, Tryz.f6.params[j]? = some t → args[j]? = some v → Value.okWide Tryz.prog W .any base t v := hval0
  have hsz : (DataW.weightsEach Tryz.prog (Tryz.f6.params.toList ++ Rows.playBackSpec.plain.varTypes Tryz.prog) (ds ++ gs)).all (· ≤ reachBytes) = true := hsz0
  have hW' := hW
  obtain ⟨p, q, hA0, hV, rfl, hfz, hnd⟩ := hW
  have hA : DataW.TrodAll enc Tryz.prog W 0 (fun _ => true) true Tryz.f6.params.toList args.toList ds p := hA0
  rw [Tryz.params6] at hA hval hsz
  obtain ⟨v0, vs0, d0, ds0, p0, q0, hargs, rfl, rfl, h0, r0⟩ := trodAll_cons hA
  obtain ⟨v1, vs1, d1, ds1, p1, q1, rfl, rfl, rfl, h1, r1⟩ := trodAll_cons r0
  obtain ⟨rfl, rfl, rfl⟩ := trodAll_nil r1
  obtain rfl : args = #[v0, v1] := by cases args; simp_all
  obtain ⟨rfl, rfl⟩ := trodVars_none hV
  have k0 := h0
  have lt0 : ∀ x ∈ p0, x.block < W.heap.size := by obtain ⟨m, hm⟩ := k0; exact DataW.trod_lt m _ _ _ hm
  have k1 := h1
  have lt1 : ∀ x ∈ p1, x.block < W.heap.size := by obtain ⟨m, hm⟩ := k1; exact DataW.trod_lt m _ _ _ hm
  obtain ⟨a0, cp0, xs0, rfl, hrow0, hcap0, hlen0⟩ := open_steps (hval 0 28 v0 rfl rfl) h0 (Sz.arg hsz (j := 0) (t := 28) rfl rfl)
  obtain ⟨sb1, rfl, -, -, -⟩ := Go.ChangeMaps.open_string Tryz.underlying9 (hval 1 9 v1 rfl rfl) h1
  obtain ⟨s1, rfl⟩ : ∃ s : List UInt8, sb1 = ⟨s.toArray⟩ := ⟨sb1.data.toList, by simp⟩
  clear hA0 hval0 hsz0
  refine (playBack_law (s := s1) hrow0 hlen0 hE).mono fun e W' ⟨he, bel⟩ => ?_
  subst he
  exact ⟨_, rfl, _, _, _, [], _, [], hW', trodAll_mk1 (shut_bool Tryz.underlying4 _), (trodAll_cons_mk (Below.trod pf_laidOut (by kernel_rfl) (of_decide_eq_true (by kernel_rfl)) k0 bel lt0) (trodAll_cons_mk (Below.trod pf_laidOut (by kernel_rfl) (of_decide_eq_true (by kernel_rfl)) k1 bel lt1) trodAll_mk0)), rfl, bel.frame _, fun h => by cases h⟩
set_option maxRecDepth 100000 in
theorem joined : joinedFacts Tryz.pinned.checked.prog 6 Tryz.f6 (OpenSpec.ofChange Rows.playBackSpec).bare Rows.playBackRow = true := by
  unfold joinedFacts
  simp only [Bool.and_eq_true]
  exact ⟨⟨⟨⟨⟨⟨⟨⟨⟨⟨⟨⟨⟨⟨⟨⟨⟨⟨⟨⟨⟨⟨⟨⟨⟨⟨⟨⟨⟨⟨⟨playBack_j1, pf_laidOut⟩, pf_mapsRowed⟩, playBack_j4⟩, playBack_j5⟩, playBack_j6⟩, pf_s2⟩, playBack_j8⟩, pf_s4⟩, playBack_j10⟩, playBack_j11⟩, playBack_j12⟩, playBack_j13⟩, playBack_j14⟩, playBack_j15⟩, playBack_j16⟩, playBack_j17⟩, playBack_j17b⟩, playBack_j18⟩, playBack_j19⟩, playBack_j20⟩, playBack_j21⟩, playBack_j22⟩, playBack_j23⟩, pf_heard⟩, pf_enter⟩, playBack_j24⟩, playBack_j25⟩, playBack_j26⟩, playBack_j27⟩, playBack_j28⟩, playBack_j29⟩
theorem said : Rows.PlayBackSaid :=
  OpenClaim.holds_of_cond 6 Tryz.f6 rfl rfl rfl rfl rfl rfl rfl ⟨rfl, rfl, rfl, rfl, rfl⟩ rfl rfl rfl rfl rfl playBack_fnm Tryz.func6 joined
    (of_decide_eq_true (by kernel_rfl)) (by unfold Func.isWrapper; first | (rw [if_pos (by decide +kernel)]; kernel_rfl) | (rw [if_neg (by decide +kernel)]; exact ⟨rfl, rfl⟩))
    (fun os started H enc _ F => by rw [OpenClaim.pre_eq_preRow]; exact lifted os started H enc F)
/-- No parameter wants a stand-in; the program's own looks are off. -/
theorem plain (f : FuncId) (fn : Func) (hf : Tryz.pinned.checked.prog.funcNamed "choragus/choraguslaw30.PlayBack" = some f) (hfn : Tryz.pinned.checked.prog.funcs[f]? = some fn) :
    true = Tryz.pinned.checked.prog.looks [] ∧ ∀ (j : Nat) t, fn.params[j]? = some t → Tryz.pinned.checked.prog.wantsStandIn t = false := by
  obtain rfl : f = 6 := Option.some.inj (playBack_fnm.symm.trans hf) |>.symm
  obtain rfl : fn = Tryz.f6 := (Option.some.inj (Tryz.func6.symm.trans hfn)).symm
  refine ⟨pf_looks, fun j t ht => ?_⟩
  rw [Tryz.params6] at ht
  have hm : t = 28 ∨ t = 9 := by simpa using Array.mem_of_getElem? ht
  rcases hm with rfl | rfl
  · exact (show Tryz.prog.wantsStandIn 28 = false by kernel_rfl)
  · exact (show Tryz.prog.wantsStandIn 9 = false by kernel_rfl)
theorem card : Rows.PlayBackCardSaid :=
  Claim7.holds_tied_plain_at .later [] _ _ _ _ said (fun _ h => by cases h) playBack_wft (fun _ h => by cases h) playBack_row_tie rfl ⟨rfl, rfl⟩ pf_main rfl plain (goesBy_none tz_go _ rfl)
end Go.Proofs.YtehagnbphamjhaaGreatDoor.PlayBackProof
namespace Go.Proofs.YtehagnbphamjhaaGreatDoor
theorem playBack_holds : Rows.PlayBackCardSaid := PlayBackProof.card
#print axioms playBack_holds
end Go.Proofs.YtehagnbphamjhaaGreatDoor

