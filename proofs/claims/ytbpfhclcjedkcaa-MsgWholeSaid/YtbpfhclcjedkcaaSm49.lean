/- Parts of the proof: XM X79. -/
import Derived.Test.YtbpfhclcjedkcaaSm24
import Derived.Test.YtbpfhclcjedkcaaSm26
import Derived.Test.YtbpfhclcjedkcaaSm40
import Derived.Test.YtbpfhclcjedkcaaSm41
namespace Go.Proofs.Ytbpfhclcjedkcaa
open Go.RowKit Go.Deep Go.Joins Go.ChangeShapes
/-! ### from the row's reading to messages -/
theorem cellsBal : Try.prog.cellsOf 41 = 3 := by kernel_rfl
theorem cellsBool : Try.prog.cellsOf 4 = 1 := by kernel_rfl
theorem cellsMsg : Try.prog.cellsOf 46 = 29 := by kernel_rfl
theorem list3 {α : Type} {cs : List α} (h : cs.length = 3) : ∃ c0 c1 c2, cs = [c0, c1, c2] := by
  match cs, h with
  | [c0, c1, c2], _ => exact ⟨c0, c1, c2, rfl⟩
theorem list29 {α : Type} {cs : List α} (h : cs.length = 29) : ∃ v0 v1 v2 v3 v4 v5 v6 v7 v8 v9 v10 v11 v12 v13 v14 v15 v16 v17 v18 v19 v20 v21 v22 v23 v24 v25 v26 v27 v28, cs = [v0, v1, v2, v3, v4, v5, v6, v7, v8, v9, v10, v11, v12, v13, v14, v15, v16, v17, v18, v19, v20, v21, v22, v23, v24, v25, v26, v27, v28] := by
  match cs, h with
  | [v0, v1, v2, v3, v4, v5, v6, v7, v8, v9, v10, v11, v12, v13, v14, v15, v16, v17, v18, v19, v20, v21, v22, v23, v24, v25, v26, v27, v28], _ => exact ⟨v0, v1, v2, v3, v4, v5, v6, v7, v8, v9, v10, v11, v12, v13, v14, v15, v16, v17, v18, v19, v20, v21, v22, v23, v24, v25, v26, v27, v28, rfl⟩
theorem trod_struct12 {H : Type} {enc : TypeId × Value → H} {P : Program} {w : World} {base : Nat} {spare : Nat → Bool} {held : Bool} {t : TypeId} {f0 f1 f2 f3 f4 f5 f6 f7 f8 f9 f10 f11 : Field} {fuel : Nat} {cs : List Value} {x : DataW H × List MemPlace} (ht : P.underlying t = some (.struct #[f0, f1, f2, f3, f4, f5, f6, f7, f8, f9, f10, f11])) (h : DataW.trod enc P w base spare held fuel t cs = some x) :
    ∃ y0 y1 y2 y3 y4 y5 y6 y7 y8 y9 y10 y11 n, x.1 = .agg [y0.1, y1.1, y2.1, y3.1, y4.1, y5.1, y6.1, y7.1, y8.1, y9.1, y10.1, y11.1] ∧ cs.length = P.cellsOf t ∧ DataW.trod enc P w base spare held n f0.type ((cs.drop f0.offset).take (P.cellsOf f0.type)) = some y0 ∧ DataW.trod enc P w base spare held n f1.type ((cs.drop f1.offset).take (P.cellsOf f1.type)) = some y1 ∧ DataW.trod enc P w base spare held n f2.type ((cs.drop f2.offset).take (P.cellsOf f2.type)) = some y2 ∧ DataW.trod enc P w base spare held n f3.type ((cs.drop f3.offset).take (P.cellsOf f3.type)) = some y3 ∧ DataW.trod enc P w base spare held n f4.type ((cs.drop f4.offset).take (P.cellsOf f4.type)) = some y4 ∧ DataW.trod enc P w base spare held n f5.type ((cs.drop f5.offset).take (P.cellsOf f5.type)) = some y5 ∧ DataW.trod enc P w base spare held n f6.type ((cs.drop f6.offset).take (P.cellsOf f6.type)) = some y6 ∧ DataW.trod enc P w base spare held n f7.type ((cs.drop f7.offset).take (P.cellsOf f7.type)) = some y7 ∧ DataW.trod enc P w base spare held n f8.type ((cs.drop f8.offset).take (P.cellsOf f8.type)) = some y8 ∧ DataW.trod enc P w base spare held n f9.type ((cs.drop f9.offset).take (P.cellsOf f9.type)) = some y9 ∧ DataW.trod enc P w base spare held n f10.type ((cs.drop f10.offset).take (P.cellsOf f10.type)) = some y10 ∧ DataW.trod enc P w base spare held n f11.type ((cs.drop f11.offset).take (P.cellsOf f11.type)) = some y11 := by
  obtain ⟨xs, n, _, rfl, hl, hlen, hf⟩ := DataW.trod_struct ht h
  match xs, hlen with
  | [y0, y1, y2, y3, y4, y5, y6, y7, y8, y9, y10, y11], _ => exact ⟨y0, y1, y2, y3, y4, y5, y6, y7, y8, y9, y10, y11, n, by simp, hl, by simpa using hf 0 f0 rfl, by simpa using hf 1 f1 rfl, by simpa using hf 2 f2 rfl, by simpa using hf 3 f3 rfl, by simpa using hf 4 f4 rfl, by simpa using hf 5 f5 rfl, by simpa using hf 6 f6 rfl, by simpa using hf 7 f7 rfl, by simpa using hf 8 f8 rfl, by simpa using hf 9 f9 rfl, by simpa using hf 10 f10 rfl, by simpa using hf 11 f11 rfl⟩
section
variable {H : Type} {enc : TypeId × Value → H} {w : World}
set_option maxRecDepth 100000 in
theorem open_bal {n : Nat} {cs : List Value} {x : DataW H × List MemPlace} (h : DataW.trod enc Try.prog w 0 (fun _ => true) true n 41 cs = some x) :
    ∃ b : Bal, cs = [.int .u32 b.1, .int .u16 b.2.1, .int .u32 b.2.2] ∧ b.1 < 4294967296 ∧ okP b.2 := by
  obtain ⟨y0, y1, m, _, hl, h0, h1⟩ := trod_struct2 Try.underlying41 h
  rw [cellsBal] at hl
  obtain ⟨c0, c1, c2, rfl⟩ := list3 hl
  have e0 : (([c0, c1, c2] : List Value).drop 0).take (Try.prog.cellsOf 24) = [c0] := by rw [cellsU32]; rfl
  have e1 : (([c0, c1, c2] : List Value).drop 1).take (Try.prog.cellsOf 26) = [c1, c2] := by rw [cellsPid]; rfl
  obtain ⟨i, hi, _, wi⟩ := DataW.trod_int Try.underlying24 (e0 ▸ h0)
  obtain ⟨x, y, hp, hb⟩ := open_pid (e1 ▸ h1)
  have b0 := bounds_u32 wi
  obtain ⟨k, rfl⟩ : ∃ k : Nat, i = (k : Int) := ⟨i.toNat, by omega⟩
  cases hi; cases hp
  exact ⟨(k, (x, y)), rfl, by simp only; omega, hb⟩
set_option maxRecDepth 100000 in
set_option maxHeartbeats 3200000 in
theorem open_msgL {n : Nat} {cs : List Value} {x : DataW H × List MemPlace} (h : DataW.trod enc Try.prog w 0 (fun _ => true) true n 46 cs = some x) (hs : Sz 46 x.1) :
    ∃ (A : MA) (m : MsgD), cs = ML A m ∧ MsgIn w A m := by
  obtain ⟨y0, y1, y2, y3, y4, y5, y6, y7, y8, y9, y10, y11, mm, hx, hl, h0, h1, h2, h3, h4, h5, h6, h7, h8, h9, h10, h11⟩ := trod_struct12 Try.underlying46 h
  rw [cellsMsg] at hl
  obtain ⟨v0, v1, v2, v3, v4, v5, v6, v7, v8, v9, v10, v11, v12, v13, v14, v15, v16, v17, v18, v19, v20, v21, v22, v23, v24, v25, v26, v27, v28, rfl⟩ := list29 hl
  have e0 : (([v0, v1, v2, v3, v4, v5, v6, v7, v8, v9, v10, v11, v12, v13, v14, v15, v16, v17, v18, v19, v20, v21, v22, v23, v24, v25, v26, v27, v28] : List Value).drop 0).take (Try.prog.cellsOf 3) = [v0] := by rw [cellsInt]; rfl
  have e1 : (([v0, v1, v2, v3, v4, v5, v6, v7, v8, v9, v10, v11, v12, v13, v14, v15, v16, v17, v18, v19, v20, v21, v22, v23, v24, v25, v26, v27, v28] : List Value).drop 1).take (Try.prog.cellsOf 26) = [v1, v2] := by rw [cellsPid]; rfl
  have e2 : (([v0, v1, v2, v3, v4, v5, v6, v7, v8, v9, v10, v11, v12, v13, v14, v15, v16, v17, v18, v19, v20, v21, v22, v23, v24, v25, v26, v27, v28] : List Value).drop 3).take (Try.prog.cellsOf 29) = [v3] := by rw [cellsU64]; rfl
  have e3 : (([v0, v1, v2, v3, v4, v5, v6, v7, v8, v9, v10, v11, v12, v13, v14, v15, v16, v17, v18, v19, v20, v21, v22, v23, v24, v25, v26, v27, v28] : List Value).drop 4).take (Try.prog.cellsOf 29) = [v4] := by rw [cellsU64]; rfl
  have e4 : (([v0, v1, v2, v3, v4, v5, v6, v7, v8, v9, v10, v11, v12, v13, v14, v15, v16, v17, v18, v19, v20, v21, v22, v23, v24, v25, v26, v27, v28] : List Value).drop 5).take (Try.prog.cellsOf 29) = [v5] := by rw [cellsU64]; rfl
  have e5 : (([v0, v1, v2, v3, v4, v5, v6, v7, v8, v9, v10, v11, v12, v13, v14, v15, v16, v17, v18, v19, v20, v21, v22, v23, v24, v25, v26, v27, v28] : List Value).drop 6).take (Try.prog.cellsOf 3) = [v6] := by rw [cellsInt]; rfl
  have e6 : (([v0, v1, v2, v3, v4, v5, v6, v7, v8, v9, v10, v11, v12, v13, v14, v15, v16, v17, v18, v19, v20, v21, v22, v23, v24, v25, v26, v27, v28] : List Value).drop 7).take (Try.prog.cellsOf 41) = [v7, v8, v9] := by rw [cellsBal]; rfl
  have e7 : (([v0, v1, v2, v3, v4, v5, v6, v7, v8, v9, v10, v11, v12, v13, v14, v15, v16, v17, v18, v19, v20, v21, v22, v23, v24, v25, v26, v27, v28] : List Value).drop 10).take (Try.prog.cellsOf 41) = [v10, v11, v12] := by rw [cellsBal]; rfl
  have e8 : (([v0, v1, v2, v3, v4, v5, v6, v7, v8, v9, v10, v11, v12, v13, v14, v15, v16, v17, v18, v19, v20, v21, v22, v23, v24, v25, v26, v27, v28] : List Value).drop 13).take (Try.prog.cellsOf 4) = [v13] := by rw [cellsBool]; rfl
  have e9 : (([v0, v1, v2, v3, v4, v5, v6, v7, v8, v9, v10, v11, v12, v13, v14, v15, v16, v17, v18, v19, v20, v21, v22, v23, v24, v25, v26, v27, v28] : List Value).drop 14).take (Try.prog.cellsOf 44) = [v14, v15, v16, v17, v18, v19, v20, v21, v22, v23] := by rw [cellsCmd]; rfl
  have e10 : (([v0, v1, v2, v3, v4, v5, v6, v7, v8, v9, v10, v11, v12, v13, v14, v15, v16, v17, v18, v19, v20, v21, v22, v23, v24, v25, v26, v27, v28] : List Value).drop 24).take (Try.prog.cellsOf 33) = [v24, v25, v26, v27] := by rw [cellsView]; rfl
  have e11 : (([v0, v1, v2, v3, v4, v5, v6, v7, v8, v9, v10, v11, v12, v13, v14, v15, v16, v17, v18, v19, v20, v21, v22, v23, v24, v25, v26, v27, v28] : List Value).drop 28).take (Try.prog.cellsOf 42) = [v28] := by rw [cellsBytes]; rfl
  have h0 := e0 ▸ h0
  have h1 := e1 ▸ h1
  have h2 := e2 ▸ h2
  have h3 := e3 ▸ h3
  have h4 := e4 ▸ h4
  have h5 := e5 ▸ h5
  have h6 := e6 ▸ h6
  have h7 := e7 ▸ h7
  have h8 := e8 ▸ h8
  have h9 := e9 ▸ h9
  have h10 := e10 ▸ h10
  have h11 := e11 ▸ h11
  have hw : ∀ k, (k ∈ y9.1.weights Try.prog 44 ∨ k ∈ y10.1.weights Try.prog 33) → k ≤ reachBytes := by
    intro k hk
    refine hs k ?_
    have e : x.1.weights Try.prog 46 = y0.1.weights Try.prog 3 ++ (y1.1.weights Try.prog 26 ++ (y2.1.weights Try.prog 29 ++ (y3.1.weights Try.prog 29 ++ (y4.1.weights Try.prog 29 ++ (y5.1.weights Try.prog 3 ++ (y6.1.weights Try.prog 41 ++ (y7.1.weights Try.prog 41 ++ (y8.1.weights Try.prog 4 ++ (y9.1.weights Try.prog 44 ++ (y10.1.weights Try.prog 33 ++ (y11.1.weights Try.prog 42 ++ []))))))))))) := by
      rw [hx]; simp [DataW.weights, Try.underlying46, DataW.weightsEach]
    rw [e]
    simp only [List.mem_append, List.append_nil]
    rcases hk with hk | hk
    · exact .inr (.inr (.inr (.inr (.inr (.inr (.inr (.inr (.inr (.inl hk)))))))))
    · exact .inr (.inr (.inr (.inr (.inr (.inr (.inr (.inr (.inr (.inr (.inl hk))))))))))
  obtain ⟨kd, hkd, _, wk⟩ := DataW.trod_int Try.underlying3 h0
  obtain ⟨px, py, hp, hpb⟩ := open_pid h1
  obtain ⟨n1, hn1, _, wn1⟩ := DataW.trod_int Try.underlying29 h2
  obtain ⟨n2, hn2, _, wn2⟩ := DataW.trod_int Try.underlying29 h3
  obtain ⟨n3, hn3, _, wn3⟩ := DataW.trod_int Try.underlying29 h4
  obtain ⟨ho, hho, _, who⟩ := DataW.trod_int Try.underlying3 h5
  obtain ⟨bb, hbb, hb1, hb2⟩ := open_bal h6
  obtain ⟨ba, hba, ha1, ha2⟩ := open_bal h7
  obtain ⟨hh, hhh, _⟩ := DataW.trod_bool Try.underlying4 h8
  obtain ⟨c, da, am, al, ad, dc, cm, cl, cd, hcc, hdr, hdb, hR, hwf, hfr, hcn, hcv⟩ := open_cmdL h9 (fun k hk => hw k (.inl hk))
  obtain ⟨V, vm, vl, vd, em, el, ed, hvc, hVR, hVw⟩ := open_viewL h10 (fun k hk => hw k (.inr hk))
  obtain ⟨ya, yc, bs, hyc, hyr, hyb⟩ := open_bytesL h11
  have b1 := bounds_u64 wn1
  have b2 := bounds_u64 wn2
  have b3 := bounds_u64 wn3
  obtain ⟨k1, rfl⟩ : ∃ k : Nat, n1 = (k : Int) := ⟨n1.toNat, by omega⟩
  obtain ⟨k2, rfl⟩ : ∃ k : Nat, n2 = (k : Int) := ⟨n2.toNat, by omega⟩
  obtain ⟨k3, rfl⟩ : ∃ k : Nat, n3 = (k : Int) := ⟨n3.toNat, by omega⟩
  cases hkd; cases hp; cases hn1; cases hn2; cases hn3; cases hho; cases hbb; cases hba; cases hhh; cases hcc; cases hvc; cases hyc
  exact ⟨⟨da, dc, am, cm, al, cl, ad, cd, vm, em, vl, el, vd, ed, ya, yc⟩, ⟨kd, (px, py), k1, k2, k3, ho, bb, ba, hh, c, V, bs⟩, rfl, ⟨⟨hdr, hdb, hR, hwf, hfr, hcn, hcv⟩, hVR, hVw, hyr, hyb, hpb, ⟨hb1, hb2⟩, ⟨ha1, ha2⟩, by simp only; omega, by simp only; omega, by simp only; omega⟩⟩
set_option maxRecDepth 100000 in
theorem open_msg {base : Nat} {v : Value} {d : DataW H} {p : List MemPlace} (hv : Value.okWide Try.prog w .any base 46 v) (h : DataW.Trod enc Try.prog w 0 (fun _ => true) true 46 v d p) (hs : Sz 46 d) :
    ∃ (A : MA) (m : MsgD), v = .agg (ML A m).toArray ∧ MsgIn w A m := by
  obtain ⟨cs, rfl, hsz⟩ := Go.WideShapes.okWide_struct Try.underlying46 hv
  obtain ⟨fuel, hf⟩ := h
  obtain ⟨A, m, hcs, r⟩ := open_msgL (x := (d, p)) hf hs
  refine ⟨A, m, ?_, r⟩
  simp only [Value.cells] at hcs
  rw [← Array.toArray_toList (xs := cs), hcs]
end
end Go.Proofs.Ytbpfhclcjedkcaa


namespace Go.Proofs.Ytbpfhclcjedkcaa
open Go.RowKit
/-! ### what is read of a beginning is read so of the whole -/
def RS.app (S : RS) (t : List Nat) : RS := ⟨S.b ++ t, S.e⟩
structure Loc {α : Type} (R : RS → α × RS) : Prop where
  sk : ∀ S, S.e ≠ 0 → (R S).2.e ≠ 0
  lo : ∀ S t, (R S).2.e = 0 → R (S.app t) = ((R S).1, (R S).2.app t)
theorem Loc.z {α : Type} {R : RS → α × RS} (h : Loc R) {S : RS} (he : (R S).2.e = 0) : S.e = 0 :=
  Decidable.byContradiction fun h0 => h.sk S h0 he
theorem Loc.bind {α β : Type} {R : RS → α × RS} {K : α → RS → β × RS} (h : Loc R) (hk : ∀ x, Loc (K x)) : Loc (fun S => K (R S).1 (R S).2) := by
  refine ⟨fun S he => (hk _).sk _ (h.sk S he), fun S t he => ?_⟩
  have h1 := h.lo S t ((hk _).z he)
  simp only [h1]
  exact (hk _).lo _ t he
theorem Loc.pure {α : Type} (x : α) : Loc (fun S => (x, S)) := ⟨fun _ h => h, fun _ _ _ => rfl⟩
theorem Loc.map {α β : Type} {R : RS → α × RS} (f : α → β) (h : Loc R) : Loc (fun S => (f (R S).1, (R S).2)) := Loc.bind (K := fun x S => (f x, S)) h (fun _ => Loc.pure _)
theorem Loc.ite {α : Type} {R Q : RS → α × RS} (p : Prop) [Decidable p] (h : Loc R) (h2 : Loc Q) : Loc (fun S => if p then R S else Q S) := by
  by_cases hp : p
  · simpa only [if_pos hp] using h
  · simpa only [if_neg hp] using h2
theorem Loc.of {α : Type} {R Q : RS → α × RS} (h : Loc R) (e : ∀ S, S.e = 0 → (Q S).2.e = 0 → Q S = R S) (e2 : ∀ S, S.e = 0 → (R S).2.e = 0 → Q S = R S) (sk : ∀ S, S.e ≠ 0 → (Q S).2.e ≠ 0) : Loc Q := by
  refine ⟨sk, fun S t he => ?_⟩
  have h0 : S.e = 0 := Decidable.byContradiction fun h0 => sk S h0 he
  have h1 := e S h0 he
  rw [h1] at he ⊢
  have h2 := h.lo S t he
  rw [e2 (S.app t) h0 (by rw [h2]; exact he), h2]
theorem getFrom_loc : ∀ (b t : List Nat) (i n : Nat), (getFrom i n b).2.2 = 0 → getFrom i n (b ++ t) = getFrom i n b
  | [], t, i, n, h => by simp [getFrom] at h
  | c :: cs, t, i, n, h => by
    rw [List.cons_append]
    unfold getFrom at h ⊢
    by_cases h1 : i = 9 ∧ 1 < c
    · rw [if_pos h1] at h; simp at h
    · rw [if_neg h1] at h
      rw [if_neg h1, if_neg h1]
      by_cases h2 : c < 128
      · rw [if_pos h2, if_pos h2]
      · rw [if_neg h2] at h
        rw [if_neg h2, if_neg h2]
        exact getFrom_loc cs t _ _ h
theorem getS_loc {b : List Nat} (t : List Nat) (h : (getS b).2.2 = 0) : getS (b ++ t) = getS b := getFrom_loc b t 0 0 h
theorem rNum_loc (most : Nat) : Loc (rNum most) := by
  refine ⟨fun S he => by rw [rNum_skip he]; exact he, fun S t he => ?_⟩
  by_cases h0 : S.e ≠ 0
  · rw [rNum_skip h0] at he; exact absurd he h0
  unfold rNum at he ⊢
  rw [if_neg h0] at he
  rw [if_neg h0, if_neg (show ¬ (S.app t).e ≠ 0 from h0)]
  by_cases h1 : (getS S.b).2.2 ≠ 0
  · rw [if_pos h1] at he; exact absurd he h1
  rw [if_neg h1] at he
  have h1' : (getS S.b).2.2 = 0 := by omega
  by_cases h2 : most < (getS S.b).1
  · rw [if_pos h2] at he; cases he
  have g : getS (S.app t).b = getS S.b := getS_loc t h1'
  rw [g, if_neg h1, if_neg h2, if_neg h1, if_neg h2]
  have hd : (S.app t).b.drop (getS S.b).2.1 = S.b.drop (getS S.b).2.1 ++ t := List.drop_append_of_le_length (getS_ok h1').2.1
  rw [hd]; rfl
theorem getP_loc {b : List Nat} (t : List Nat) (h : (getP b).2.2 = 0) : getP (b ++ t) = getP b ∧ (getP b).2.1 ≤ b.length := by
  unfold getP at h ⊢
  by_cases h1 : (getS b).2.2 ≠ 0
  · rw [if_pos h1] at h; exact absurd h h1
  rw [if_neg h1] at h
  have h1' : (getS b).2.2 = 0 := by omega
  by_cases h2 : (getS (b.drop (getS b).2.1)).2.2 ≠ 0
  · rw [if_pos h2] at h; exact absurd h h2
  rw [if_neg h2] at h
  have h2' : (getS (b.drop (getS b).2.1)).2.2 = 0 := by omega
  have k1 := (getS_ok h1').2.1
  have k2 := (getS_ok h2').2.1
  rw [List.length_drop] at k2
  have g2 : getS ((b ++ t).drop (getS b).2.1) = getS (b.drop (getS b).2.1) := by rw [List.drop_append_of_le_length k1]; exact getS_loc t h2'
  rw [getS_loc t h1', g2, if_neg h1, if_neg h2]
  refine ⟨rfl, ?_⟩
  by_cases h3 : 65535 < (getS b).1 ∨ 4294967295 < (getS (b.drop (getS b).2.1)).1
  · rw [if_pos h3]; exact Nat.zero_le _
  · rw [if_neg h3]; show (getS b).2.1 + _ ≤ _; omega
theorem rPid_loc : Loc rPid := by
  refine ⟨fun S he => by rw [rPid_skip he]; exact he, fun S t he => ?_⟩
  by_cases h0 : S.e ≠ 0
  · rw [rPid_skip h0] at he; exact absurd he h0
  unfold rPid at he ⊢
  rw [if_neg h0] at he
  rw [if_neg h0, if_neg (show ¬ (S.app t).e ≠ 0 from h0)]
  by_cases h1 : (getP S.b).2.2 ≠ 0
  · rw [if_pos h1] at he; exact absurd he h1
  have h1' : (getP S.b).2.2 = 0 := by omega
  have g := getP_loc t h1'
  have g1 : getP (S.app t).b = getP S.b := g.1
  rw [g1, if_neg h1, if_neg h1]
  have hd : (S.app t).b.drop (getP S.b).2.1 = S.b.drop (getP S.b).2.1 ++ t := List.drop_append_of_le_length g.2
  rw [hd]; rfl
theorem rPidsN_loc : ∀ n, Loc (rPidsN n)
  | 0 => Loc.pure []
  | n + 1 => by
    have h : Loc (fun S => ((rPid S).1 :: (rPidsN n (rPid S).2).1, (rPidsN n (rPid S).2).2)) :=
      Loc.bind (K := fun p S => (p :: (rPidsN n S).1, (rPidsN n S).2)) rPid_loc (fun p => Loc.map (fun l => p :: l) (rPidsN_loc n))
    have e : ∀ S : RS, S.e = 0 → rPidsN (n + 1) S = ((rPid S).1 :: (rPidsN n (rPid S).2).1, (rPidsN n (rPid S).2).2) := fun S he => by
      show (if S.e ≠ 0 then ([], S) else _) = _
      rw [if_neg (by omega)]
    exact h.of (fun S he _ => e S he) (fun S he _ => e S he) (fun S he => by rw [rPidsN_stop he]; exact he)
theorem rPids_loc (most : Nat) : Loc (rPids most) := by
  have h : Loc (fun S => rPidsN (rNum most S).1 (rNum most S).2) := Loc.bind (K := rPidsN) (rNum_loc most) rPidsN_loc
  refine h.of (fun S he hz => ?_) (fun S he hz => ?_) (fun S he => by rw [rPids_skip he]; exact he)
  · unfold rPids at hz ⊢
    rw [if_neg (by omega)] at hz
    rw [if_neg (by omega)]
    by_cases h1 : (rPidsN (rNum most S).1 (rNum most S).2).2.e ≠ 0
    · rw [if_pos h1] at hz; exact absurd hz h1
    · rw [if_neg h1]
  · unfold rPids
    rw [if_neg (by omega), if_neg (by simpa using hz)]
theorem rBytes_loc (most : Nat) : Loc (rBytes most) := by
  have h : Loc (fun S => (fun n (T : RS) => (T.b.take n, (⟨T.b.drop n, if T.b.length < n then 2 else T.e⟩ : RS))) (rNum most S).1 (rNum most S).2) := by
    refine Loc.bind (K := fun n (T : RS) => (T.b.take n, (⟨T.b.drop n, if T.b.length < n then 2 else T.e⟩ : RS))) (rNum_loc most) (fun n => ⟨fun S he => ?_, fun S t he => ?_⟩)
    · show (if S.b.length < n then 2 else S.e) ≠ 0
      split
      · decide
      · exact he
    · have he : (if S.b.length < n then 2 else S.e) = 0 := he
      have hl : ¬ S.b.length < n := fun h => by rw [if_pos h] at he; cases he
      rw [if_neg hl] at he
      have l2 : ¬ (S.app t).b.length < n := by show ¬ (S.b ++ t).length < n; rw [List.length_append]; omega
      have e1 : (S.app t).b.take n = S.b.take n := List.take_append_of_le_length (by omega)
      have e2 : (S.app t).b.drop n = S.b.drop n ++ t := List.drop_append_of_le_length (by omega)
      simp only [if_neg hl, if_neg l2, e1, e2]
      rfl
  refine h.of (fun S he hz => ?_) (fun S he hz => ?_) (fun S he => by rw [rBytes_skip he]; exact he)
  · unfold rBytes at hz ⊢
    rw [if_neg (by omega)] at hz
    rw [if_neg (by omega)]
    by_cases h1 : (rNum most S).2.e ≠ 0
    · rw [if_pos h1] at hz; exact absurd hz h1
    rw [if_neg h1] at hz ⊢
    by_cases h2 : (rNum most S).2.b.length < (rNum most S).1
    · rw [if_pos h2] at hz; cases hz
    · rw [if_neg h2]
      simp only [if_neg h2]
      rw [show (rNum most S).2.e = 0 by omega]
  · simp only at hz
    have h2 : ¬ (rNum most S).2.b.length < (rNum most S).1 := fun h => by rw [if_pos h] at hz; cases hz
    rw [if_neg h2] at hz
    unfold rBytes
    rw [if_neg (by omega), if_neg (by omega), if_neg h2]
    simp only [if_neg h2, hz]
theorem rPlacesN_loc (ms : List Pid) : ∀ n, Loc (rPlacesN ms n)
  | 0 => Loc.pure []
  | n + 1 => by
    by_cases hm : ms = []
    · refine ⟨fun S he => ?_, fun S t he => ?_⟩
      · unfold rPlacesN; rw [if_pos he]; exact he
      · unfold rPlacesN at he
        by_cases h0 : S.e ≠ 0
        · rw [if_pos h0] at he; exact absurd he h0
        · rw [if_neg h0, if_pos hm] at he; cases he
    have h : Loc (fun S => (ms.getD (rNum (ms.length - 1) S).1 (0, 0) :: (rPlacesN ms n (rNum (ms.length - 1) S).2).1, (rPlacesN ms n (rNum (ms.length - 1) S).2).2)) :=
      Loc.bind (K := fun x S => (ms.getD x (0, 0) :: (rPlacesN ms n S).1, (rPlacesN ms n S).2)) (rNum_loc _) (fun x => Loc.map (fun l => ms.getD x (0, 0) :: l) (rPlacesN_loc ms n))
    have e : ∀ S : RS, S.e = 0 → rPlacesN ms (n + 1) S = _ := fun S he => by
      show (if S.e ≠ 0 then ([], S) else if ms = [] then ([], ⟨S.b, 3⟩) else _) = _
      rw [if_neg (by omega), if_neg hm]
    exact h.of (fun S he _ => e S he) (fun S he _ => e S he) (fun S he => by unfold rPlacesN; rw [if_pos he]; exact he)
theorem rPlaces_loc (ms : List Pid) : Loc (rPlaces ms) := Loc.bind (K := rPlacesN ms) (rNum_loc 24) (rPlacesN_loc ms)
theorem rLeaves_loc (ms : List Pid) : ∀ n, Loc (rLeaves ms n)
  | 0 => Loc.pure []
  | n + 1 => by
    have h : Loc (fun S => ((rPlaces ms S).1 :: (rLeaves ms n (rPlaces ms S).2).1, (rLeaves ms n (rPlaces ms S).2).2)) :=
      Loc.bind (K := fun p S => (p :: (rLeaves ms n S).1, (rLeaves ms n S).2)) (rPlaces_loc ms) (fun p => Loc.map (fun l => p :: l) (rLeaves_loc ms n))
    have e : ∀ S : RS, S.e = 0 → rLeaves ms (n + 1) S = ((rPlaces ms S).1 :: (rLeaves ms n (rPlaces ms S).2).1, (rLeaves ms n (rPlaces ms S).2).2) := fun S he => by
      show (if S.e ≠ 0 then ([], S) else _) = _
      rw [if_neg (by omega)]
    exact h.of (fun S he _ => e S he) (fun S he _ => e S he) (fun S he => by unfold rLeaves; rw [if_pos he]; exact he)
theorem rParts_loc : Loc rParts :=
  Loc.bind (K := fun a S => ((⟨((a : Nat) : Int), (rPids 24 S).1, (rLeaves (rPids 24 S).1 (rNum 24 (rPids 24 S).2).1 (rNum 24 (rPids 24 S).2).2).1, (rPlaces (rPids 24 S).1 (rLeaves (rPids 24 S).1 (rNum 24 (rPids 24 S).2).1 (rNum 24 (rPids 24 S).2).2).2).1⟩ : View), (rPlaces (rPids 24 S).1 (rLeaves (rPids 24 S).1 (rNum 24 (rPids 24 S).2).1 (rNum 24 (rPids 24 S).2).2).2).2)) (rNum_loc _) fun a =>
  Loc.bind (K := fun m S => ((⟨((a : Nat) : Int), m, (rLeaves m (rNum 24 S).1 (rNum 24 S).2).1, (rPlaces m (rLeaves m (rNum 24 S).1 (rNum 24 S).2).2).1⟩ : View), (rPlaces m (rLeaves m (rNum 24 S).1 (rNum 24 S).2).2).2)) (rPids_loc 24) fun m =>
  Loc.bind (K := fun n S => ((⟨((a : Nat) : Int), m, (rLeaves m n S).1, (rPlaces m (rLeaves m n S).2).1⟩ : View), (rPlaces m (rLeaves m n S).2).2)) (rNum_loc 24) fun n =>
  Loc.bind (K := fun l S => ((⟨((a : Nat) : Int), m, l, (rPlaces m S).1⟩ : View), (rPlaces m S).2)) (rLeaves_loc m n) fun l =>
  Loc.map (fun d => (⟨((a : Nat) : Int), m, l, d⟩ : View)) (rPlaces_loc m)
theorem rView_loc : Loc rView := by
  refine ⟨fun S he => ?_, fun S t he => ?_⟩
  · unfold rView
    have := rParts_loc.sk S he
    rw [if_pos this]; exact this
  · unfold rView at he ⊢
    by_cases h1 : (rParts S).2.e ≠ 0
    · rw [if_pos h1] at he; exact absurd he h1
    rw [if_neg h1] at he
    have hp := rParts_loc.lo S t (by omega)
    by_cases h2 : refCheckB (rParts S).1 = false
    · rw [if_pos h2] at he; cases he
    simp only [hp]
    rw [if_neg h1, if_neg h2, if_neg (show ¬ ((rParts S).2.app t).e ≠ 0 from h1), if_neg h2]
theorem rCmdParts_loc : Loc rCmdParts := by
  have hK : ∀ k : Nat, Loc (fun S => if k = 2 then ((⟨(k : Nat), (rPid S).1, (rNum 4611686018427387904 (rPid S).2).1, (rNum 4611686018427387904 (rNum 4611686018427387904 (rPid S).2).2).1, (rBytes 200 (rNum 4611686018427387904 (rNum 4611686018427387904 (rPid S).2).2).2).1, zeroV⟩ : CmdD), (rBytes 200 (rNum 4611686018427387904 (rNum 4611686018427387904 (rPid S).2).2).2).2)
      else if k = 3 then (⟨(k : Nat), (0, 0), 0, 0, [], (rView S).1⟩, (rView S).2) else (⟨(k : Nat), (0, 0), 0, 0, [], zeroV⟩, S)) := fun k => by
    refine Loc.ite _ ?_ (Loc.ite _ ?_ (Loc.pure _))
    · exact Loc.bind (K := fun f S => ((⟨(k : Nat), f, (rNum 4611686018427387904 S).1, (rNum 4611686018427387904 (rNum 4611686018427387904 S).2).1, (rBytes 200 (rNum 4611686018427387904 (rNum 4611686018427387904 S).2).2).1, zeroV⟩ : CmdD), (rBytes 200 (rNum 4611686018427387904 (rNum 4611686018427387904 S).2).2).2)) rPid_loc fun f =>
        Loc.bind (K := fun n S => ((⟨(k : Nat), f, n, (rNum 4611686018427387904 S).1, (rBytes 200 (rNum 4611686018427387904 S).2).1, zeroV⟩ : CmdD), (rBytes 200 (rNum 4611686018427387904 S).2).2)) (rNum_loc _) fun n =>
        Loc.bind (K := fun w S => ((⟨(k : Nat), f, n, w, (rBytes 200 S).1, zeroV⟩ : CmdD), (rBytes 200 S).2)) (rNum_loc _) fun w =>
        Loc.map (fun d => (⟨(k : Nat), f, n, w, d, zeroV⟩ : CmdD)) (rBytes_loc 200)
    · exact Loc.map (fun v => (⟨(k : Nat), (0, 0), 0, 0, [], v⟩ : CmdD)) rView_loc
  exact Loc.bind (rNum_loc 3) hK
theorem rCmd_loc : Loc rCmd := by
  refine ⟨fun S he => ?_, fun S t he => ?_⟩
  · unfold rCmd
    have := rCmdParts_loc.sk S he
    rw [if_pos this]; exact this
  · unfold rCmd at he ⊢
    by_cases h1 : (rCmdParts S).2.e ≠ 0
    · rw [if_pos h1] at he; exact absurd he h1
    rw [if_neg h1] at he
    have hp := rCmdParts_loc.lo S t (by omega)
    by_cases h2 : cmdChk (rCmdParts S).1 ≠ 0
    · rw [if_pos h2] at he; cases he
    simp only [hp]
    rw [if_neg h1, if_neg h2, if_neg (show ¬ ((rCmdParts S).2.app t).e ≠ 0 from h1), if_neg h2]
theorem rTruth_loc : Loc rTruth := by
  refine ⟨fun S he => by unfold rTruth; rw [if_pos he]; exact he, fun S t he => ?_⟩
  obtain ⟨b, e⟩ := S
  unfold rTruth at he ⊢
  by_cases h0 : e ≠ 0
  · rw [if_pos h0] at he; exact absurd he h0
  have h0' : e = 0 := by omega
  subst h0'
  cases b with
  | nil => simp at he
  | cons c r =>
    simp only [ne_eq, not_true_eq_false, if_false] at he
    by_cases h1 : 1 < c
    · rw [if_pos h1] at he; cases he
    · simp [RS.app, h1]
theorem rBal_loc : Loc rBal := by
  have h : Loc (fun S => (((rNum 4294967295 S).1, (rPid (rNum 4294967295 S).2).1), (rPid (rNum 4294967295 S).2).2)) :=
    Loc.bind (K := fun n S => ((n, (rPid S).1), (rPid S).2)) (rNum_loc _) fun n => Loc.map (fun p => (n, p)) rPid_loc
  refine h.of (fun S he hz => ?_) (fun S he hz => ?_) (fun S he => by unfold rBal; rw [if_pos he]; exact he)
  · unfold rBal at hz ⊢
    rw [if_neg (by omega)] at hz
    rw [if_neg (by omega)]
    by_cases h1 : (rPid (rNum 4294967295 S).2).2.e ≠ 0
    · rw [if_pos h1] at hz; exact absurd hz h1
    · rw [if_neg h1]
  · unfold rBal
    rw [if_neg (by omega), if_neg (by simpa using hz)]
/-- one field is read of a beginning as of the whole -/
theorem rFld_loc (i : Nat) (m : MsgD) : Loc (fun S => rFld i (m, S)) := by
  unfold rFld
  refine Loc.ite _ (Loc.map (fun p => { m with who := p }) rPid_loc) (Loc.ite _ (Loc.map (fun p => { m with vw := p }) (rNum_loc _)) (Loc.ite _ (Loc.map (fun p => { m with sl := p }) (rNum_loc _)) (Loc.ite _ (Loc.map (fun p => { m with b := p }) rBal_loc) (Loc.ite _ (Loc.map (fun p => { m with num := p }) (rNum_loc _)) (Loc.ite _ (Loc.map (fun p => { m with hops := (p : Nat) }) (rNum_loc _)) (Loc.ite _ ?_ (Loc.ite _ (Loc.map (fun p => { m with c := p }) rCmd_loc) (Loc.ite _ (Loc.map (fun p => { m with v := p }) rView_loc) (Loc.map (fun p => { m with y := p }) (rBytes_loc _))))))))))
  refine Loc.bind (K := fun t S => if t then (({ m with has := true, a := (rBal S).1, c := (rCmd (rBal S).2).1 } : MsgD), (rCmd (rBal S).2).2) else (({ m with has := false } : MsgD), S)) rTruth_loc (fun t => Loc.ite _ ?_ (Loc.pure _))
  exact Loc.bind (K := fun a S => (({ m with has := true, a := a, c := (rCmd S).1 } : MsgD), (rCmd S).2)) rBal_loc fun a => Loc.map (fun c => ({ m with has := true, a := a, c := c } : MsgD)) rCmd_loc
theorem fold_loc : ∀ (l : List Nat) (m : MsgD), Loc (fun S => l.foldl (fun x i => rFld i x) (m, S))
  | [], m => Loc.pure m
  | i :: l, m => Loc.bind (K := fun m S => l.foldl (fun x i => rFld i x) (m, S)) (rFld_loc i m) (fun m => fold_loc l m)
theorem rMsgParts_loc : Loc rMsgParts := by
  have hK : ∀ k : Nat, Loc (fun S => (ltrs (k : Int)).foldl (fun x i => rFld i x) ({ zeroM with kind := (k : Int) }, if flN (k : Int) = 0 then stop5 S else S)) := fun k => by
    refine Loc.bind (R := fun S => (({ zeroM with kind := (k : Int) } : MsgD), if flN (k : Int) = 0 then stop5 S else S)) (K := fun m S => (ltrs (k : Int)).foldl (fun x i => rFld i x) (m, S)) ?_ (fun m => fold_loc _ m)
    by_cases hf : flN (k : Int) = 0
    · simp only [if_pos hf]
      refine ⟨fun S he => ?_, fun S t he => ?_⟩
      · show (stop5 S).e ≠ 0
        unfold stop5; rw [if_neg he]; exact he
      · have he : (stop5 S).e = 0 := he
        unfold stop5 at he
        by_cases h0 : S.e = 0
        · rw [if_pos h0] at he; cases he
        · rw [if_neg h0] at he; exact absurd he h0
    · simp only [if_neg hf]; exact Loc.pure _
  exact Loc.bind (rNum_loc 14) hK
/-- no beginning of a form is one, nor is a form with a byte behind it -/
theorem rMsg_cut {m : MsgD} (h : MsgOk m) (hw : MsgWf m) (hlc : refCheckB m.c.v = true → Laid m.c.v) (hlv : refCheckB m.v = true → Laid m.v) {k : Nat} (hk : k < (msgF m).length) : (rMsg ((msgF m).take k)).2 ≠ 0 := by
  intro he
  have hz : rEnd (rMsgParts ⟨(msgF m).take k, 0⟩).2 = 0 := by
    unfold rMsg at he
    by_cases h1 : rEnd (rMsgParts ⟨(msgF m).take k, 0⟩).2 ≠ 0
    · rw [if_pos h1] at he; exact he
    · omega
  unfold rEnd at hz
  have hb := rMsgParts_back h hw hlc hlv []
  rw [List.append_nil] at hb
  have h0 : (rMsgParts ⟨(msgF m).take k, 0⟩).2.e = 0 := by
    by_cases hc : (rMsgParts ⟨(msgF m).take k, 0⟩).2.e = 0 ∧ 0 < (rMsgParts ⟨(msgF m).take k, 0⟩).2.b.length
    · exact hc.1
    · rw [if_neg hc] at hz; exact hz
  have hl := rMsgParts_loc.lo ⟨(msgF m).take k, 0⟩ ((msgF m).drop k) h0
  have e1 : (RS.app ⟨(msgF m).take k, 0⟩ ((msgF m).drop k)) = ⟨msgF m, 0⟩ := by unfold RS.app; simp only [List.take_append_drop]
  rw [e1, hb] at hl
  have e2 := congrArg (fun x : MsgD × RS => x.2.b) hl
  simp only [RS.app] at e2
  have e3 := congrArg List.length e2
  rw [List.length_append, List.length_drop] at e3
  simp at e3
  omega
theorem rMsg_more {m : MsgD} (h : MsgOk m) (hw : MsgWf m) (hlc : refCheckB m.c.v = true → Laid m.c.v) (hlv : refCheckB m.v = true → Laid m.v) (c : Nat) : rMsg (msgF m ++ [c]) = (zeroM, 5) := by
  unfold rMsg
  rw [rMsgParts_back h hw hlc hlv [c]]
  rfl
theorem rMsg_back {m : MsgD} (hc : msgChk m = true) (hw : MsgWf m) (hlc : refCheckB m.c.v = true → Laid m.c.v) (hlv : refCheckB m.v = true → Laid m.v) : rMsg (msgF m) = (m, 0) := by
  have hb := rMsgParts_back (msgChk_ok hc) hw hlc hlv []
  rw [List.append_nil] at hb
  unfold rMsg
  rw [hb]
  simp [rEnd, hc]
end Go.Proofs.Ytbpfhclcjedkcaa

