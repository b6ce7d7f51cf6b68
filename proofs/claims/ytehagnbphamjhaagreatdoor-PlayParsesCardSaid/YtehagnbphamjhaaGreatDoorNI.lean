/- Parts of the proof: NI. -/
import Derived.Test.YtehagnbphamjhaaGreatDoorE14
namespace Go.Proofs.YtehagnbphamjhaaGreatDoor
open Go.RowKit
/-! ### install of a first view -/
def wasC : List Value := [.int .u64 0, .slice none 0 0, .slice none 0 0, .slice none 0 0]
def stC (c0 c1 c2 c3 c4 : Value) : List Value := [c0, c1, c2, c3, c4, .string ⟨#[]⟩, .string ⟨#[]⟩, .string ⟨#[]⟩, .string ⟨#[]⟩, .string ⟨#[]⟩, .string ⟨#[]⟩, .string ⟨#[]⟩, .string ⟨#[]⟩]
theorem bdOk0 : BdOk [⟨#[]⟩, ⟨#[]⟩, ⟨#[]⟩, ⟨#[]⟩, ⟨#[]⟩, ⟨#[]⟩, ⟨#[]⟩, ⟨#[]⟩] := fun k m h => by
  have : m ∈ ([⟨#[]⟩, ⟨#[]⟩, ⟨#[]⟩, ⟨#[]⟩, ⟨#[]⟩, ⟨#[]⟩, ⟨#[]⟩, ⟨#[]⟩] : List ByteArray) := List.mem_of_getElem? h
  simp at this
  subst this
  exact Nat.zero_le _
/-- eleven cells of a box, from the ninth on -/
abbrev st11 (w : World) (b : Nat) (v0 v1 v2 v3 v4 v5 v6 v7 v8 v9 v10 : Value) : World := ((((((((((w.setCell ⟨b, 9, none⟩ v0).setCell ⟨b, 10, none⟩ v1).setCell ⟨b, 11, none⟩ v2).setCell ⟨b, 12, none⟩ v3).setCell ⟨b, 13, none⟩ v4).setCell ⟨b, 14, none⟩ v5).setCell ⟨b, 15, none⟩ v6).setCell ⟨b, 16, none⟩ v7).setCell ⟨b, 17, none⟩ v8).setCell ⟨b, 18, none⟩ v9).setCell ⟨b, 19, none⟩ v10
theorem st11_box {w : World} {b : Nat} {t : TypeId} {cs : List Value} (h : BoxL w b t cs) (v0 v1 v2 v3 v4 v5 v6 v7 v8 v9 v10 : Value) : BoxL (st11 w b v0 v1 v2 v3 v4 v5 v6 v7 v8 v9 v10) b t (((((((((((cs.set 9 v0).set 10 v1).set 11 v2).set 12 v3).set 13 v4).set 14 v5).set 15 v6).set 16 v7).set 17 v8).set 18 v9).set 19 v10) :=
  (((((((((((h.set (j := 9) (v := v0)).set (j := 10) (v := v1)).set (j := 11) (v := v2)).set (j := 12) (v := v3)).set (j := 13) (v := v4)).set (j := 14) (v := v5)).set (j := 15) (v := v6)).set (j := 16) (v := v7)).set (j := 17) (v := v8)).set (j := 18) (v := v9)).set (j := 19) (v := v10))
theorem st11_mut (w : World) (b : Nat) (v0 v1 v2 v3 v4 v5 v6 v7 v8 v9 v10 : Value) : Mut (fun k => k = b) w (st11 w b v0 v1 v2 v3 v4 v5 v6 v7 v8 v9 v10) := by
  unfold st11
  iterate 11 refine mut_set ?_ b _ _ rfl
  exact Mut.refl _ _
/-- what install starts from, and what it leaves -/
structure Inst (w w' : World) (V : View) (i nb h pb wb sr : Nat) : Prop where
  box : ∃ (cs : List Value) (v : Value) (A : VAd), BoxL w' nb 233 cs ∧ cs[8]? = some (.pointer (some ⟨h, 0, none⟩)) ∧ cs[47]? = some (.slice none 0 0) ∧ cs[48]? = some v ∧ OwnK w' w.heap.size 57 9 v [[.int .i64 1, .int .u64 i, .slice A.am V.ms.length A.cm, .slice A.al V.ls.length A.cl, .slice A.ad V.ds.length A.cd, .int .u16 0, .int .u32 0, .int .u64 0, .slice none 0 0]] ∧ Stab w.heap.size w' A.am A.al A.ad V
  mt : Mut (fun k => k = nb ∨ k = pb ∨ k = wb ∨ k = sr) w w'
set_option maxRecDepth 100000 in
set_option maxHeartbeats 12800000 in
theorem install0_any {V : View} {i : Nat} {A : VAd} {w0 w : World} {x y l m t T : Int} {nb h stb pb wb wr sb sr m1 m2 : Nat} {led acc c0 c1 c2 c3 c4 p0 p1 p2 p3 p4 p5 p6 p7 p8 p9 p10 p11 p12 p13 : Value}
    (hf : FitV V i) (hs : Small V) (hV0 : ViewR w0 A.am A.al A.ad V) (hb0 : Below w0.heap.size w0 w) (hge : w0.heap.size ≤ nb ∧ w0.heap.size ≤ pb ∧ w0.heap.size ≤ wb ∧ w0.heap.size ≤ sr) (hp : (x, y) ∈ V.ms)
    (hN : BoxL w nb 233 (nodeC x y l m t 1 (.slice none 0 0) 0 h grp0 led (.pointer (some ⟨stb, 0, none⟩)) acc (.pointer (some ⟨pb, 0, none⟩)) wb rum0 0 m1 m2 (.slice none 0 0) sb false (.slice none 0 0) (.slice none 0 0)))
    (hS : BoxL w stb 302 (stC c0 c1 c2 c3 c4)) (hP : BoxL w pb 312 [p0, p1, p2, p3, p4, p5, p6, p7, p8, p9, p10, p11, p12, p13]) (hW : WatchIs w wb wr T []) (hL : SetIs w sb sr [])
    (hd : [nb, stb, pb, wb, wr, sb, sr].Nodup) :
    Calls Tryz.prog 148 #[.pointer (some ⟨nb, 0, none⟩), .agg (vcl V i A).toArray, .int .u64 0] w fun e w' => e = .returned (.tuple #[]) ∧ Inst w w' V i nb h pb wb sr := by
  have hV : ViewR w A.am A.al A.ad V := hV0.ext hb0
  obtain ⟨am, al, ad, cm, cl, cd⟩ := A
  obtain ⟨n1, e1⟩ : ∃ q, V.ms.length = q := ⟨_, rfl⟩
  obtain ⟨n2, e2⟩ : ∃ q, V.ls.length = q := ⟨_, rfl⟩
  obtain ⟨n3, e3⟩ : ∃ q, V.ds.length = q := ⟨_, rfl⟩
  have hx : ∀ am al ad cm cl cd, (vcl V i ⟨am, al, ad, cm, cl, cd⟩).toArray = #[.int .u64 i, .slice am n1 cm, .slice al n2 cl, .slice ad n3 cd] := by intros; unfold vcl; rw [e1, e2, e3]
  obtain ⟨W1, hW1⟩ : ∃ W1, w.alloc (.cells #[.int .u64 i, .slice am n1 cm, .slice al n2 cl, .slice ad n3 cd] 54) = W1 := ⟨_, rfl⟩
  have hb1 : Below w.heap.size w W1 := by rw [← hW1]; exact (Below.refl _ _).alloc (Nat.le_refl _) _
  have hvb : BoxL W1 w.heap.size 54 [.int .u64 i, .slice am n1 cm, .slice al n2 cl, .slice ad n3 cd] := by rw [← hW1]; exact BoxL.made w _ _
  have hz1 : W1.heap.size = w.heap.size + 1 := by rw [← hW1]; simp
  obtain ⟨W2, hW2⟩ : ∃ W2, W1.alloc (.cells #[.int .u64 0, .slice none 0 0, .slice none 0 0, .slice none 0 0] 54) = W2 := ⟨_, rfl⟩
  have hb12 : Below W1.heap.size W1 W2 := by rw [← hW2]; exact (Below.refl _ _).alloc (Nat.le_refl _) _
  have hb2 : Below w.heap.size w W2 := hb1.trans (hb12.mono hb1.size)
  have hwas : BoxL W2 W1.heap.size 54 wasC := by rw [← hW2]; exact BoxL.made W1 _ _
  have hN1 := hN.ext hb1
  have g0 := hN1.cell (j := 9) rfl
  have g1 := hN1.cell (j := 10) rfl
  have g2 := hN1.cell (j := 11) rfl
  have g3 := hN1.cell (j := 12) rfl
  have HV2 := hid (hV.ext hb2)
  have HV0 := hid hV0
  have HBV : Hid (Below w0.heap.size w0 W2) := hid (hb0.trans (hb2.mono hb0.size))
  have HGE := hid hge
  have HZ1 := hid hz1
  have HN2 := hid (hN.ext hb2)
  have HS2 := hid (hS.ext hb2)
  have HP2 := hid (hP.ext hb2)
  have HW2 := hid (hW.ext hb2)
  have HL2 := hid (hL.ext hb2)
  have HVB2 := hid (hvb.ext hb12)
  have HWAS := hid hwas
  have HB2 := hid hb2
  have HZ : Hid (nb < w.heap.size ∧ stb < w.heap.size ∧ pb < w.heap.size ∧ wb < w.heap.size ∧ wr < w.heap.size ∧ sb < w.heap.size ∧ sr < w.heap.size) := hid ⟨hN.lt, hS.lt, hP.lt, hW.lt, hW.map.lt, hL.lt, hL.map.lt⟩
  have HNE : Hid (nb ≠ pb ∧ nb ≠ wb ∧ nb ≠ wr ∧ nb ≠ sb ∧ nb ≠ sr ∧ pb ≠ wb ∧ pb ≠ wr ∧ pb ≠ sb ∧ pb ≠ sr ∧ wb ≠ sb ∧ wb ≠ sr ∧ wr ≠ sb ∧ wr ≠ sr ∧ sb ≠ sr) := hid (by
    simp only [List.nodup_cons, List.mem_cons, List.not_mem_nil, or_false, not_or, List.nodup_nil, and_true, not_false_eq_true] at hd
    omega)
  have HF := hid hf
  have HSM := hid hs
  have HX := hid hx
  have HMEM := hid hp
  have HE := hid (And.intro e1 (And.intro e2 e3))
  rw [hx]
  have HX2 := hid hW2
  clear hV0 hb0 hge hW2 hN hS hP hW hL hN1 hV hvb hwas hb1 hb12 hb2 hf hs hd hx hp e1 e2 e3 hz1
  have hne : ¬ (w.heap.size = nb) := fun e => by have := HZ.out.1; omega
  have HS : Hid (∀ W, Below W2.heap.size W2 W → Mut (fun k => k = nb) W2 W ∧ W.cell? ⟨nb, 21, none⟩ = some (.pointer (some ⟨stb, 0, none⟩)) ∧ W.cell? ⟨w.heap.size, 0, none⟩ = some (.int .u64 i) ∧ W.cell? ⟨w.heap.size, 1, none⟩ = some (.slice am n1 cm) ∧ W.cell? ⟨w.heap.size, 2, none⟩ = some (.slice al n2 cl) ∧ W.cell? ⟨w.heap.size, 3, none⟩ = some (.slice ad n3 cd)) := hid fun W hb => ⟨Mut.of_below hb, cell_toB (HN2.out.cell (j := 21) rfl) hb, cell_toB (HVB2.out.cell (j := 0) rfl) hb, cell_toB (HVB2.out.cell (j := 1) rfl) hb, cell_toB (HVB2.out.cell (j := 2) rfl) hb, cell_toB (HVB2.out.cell (j := 3) rfl) hb⟩
  have HSF : Hid (∀ W0, Below W2.heap.size W2 W0 → ∀ v0 v1 v2 v3 v4 v5 v6 v7 v8 v9 v10, ∀ W, st11 W0 nb v0 v1 v2 v3 v4 v5 v6 v7 v8 v9 v10 = W → Mut (fun k => k = nb) W2 W ∧ W.cell? ⟨nb, 21, none⟩ = some (.pointer (some ⟨stb, 0, none⟩)) ∧ W.cell? ⟨w.heap.size, 0, none⟩ = some (.int .u64 i) ∧ W.cell? ⟨w.heap.size, 1, none⟩ = some (.slice am n1 cm) ∧ W.cell? ⟨w.heap.size, 2, none⟩ = some (.slice al n2 cl) ∧ W.cell? ⟨w.heap.size, 3, none⟩ = some (.slice ad n3 cd)) := hid fun W0 hb v0 v1 v2 v3 v4 v5 v6 v7 v8 v9 v10 W e => by
    subst e
    have hm := (Mut.of_below (F := fun k => k = nb) hb).trans (st11_mut W0 nb v0 v1 v2 v3 v4 v5 v6 v7 v8 v9 v10)
    have hv := HVB2.out.mut hm hne
    exact ⟨hm, (st11_box (HN2.out.ext hb) v0 v1 v2 v3 v4 v5 v6 v7 v8 v9 v10).cell (j := 21) rfl, hv.cell (j := 0) rfl, hv.cell (j := 1) rfl, hv.cell (j := 2) rfl, hv.cell (j := 3) rfl⟩
  have HFZ : Hid (∀ W, Below W2.heap.size W2 W → ∀ j, W.frozen? ⟨nb, j, none⟩ = false) := hid fun W hb => (HN2.out.ext hb).frozen
  have HCG : Hid (∀ W, Below W2.heap.size W2 W → W.cell? ⟨nb, 9, none⟩ = some (.int .u64 0) ∧ W.cell? ⟨nb, 10, none⟩ = some (.slice none 0 0) ∧ W.cell? ⟨nb, 11, none⟩ = some (.slice none 0 0) ∧ W.cell? ⟨nb, 12, none⟩ = some (.slice none 0 0) ∧ W.cell? ⟨nb, 13, none⟩ = some (.int .u64 0) ∧ W.cell? ⟨nb, 14, none⟩ = some (.slice none 0 0) ∧ W.cell? ⟨nb, 15, none⟩ = some (.pointer none) ∧ W.cell? ⟨nb, 16, none⟩ = some (.pointer none) ∧ W.cell? ⟨nb, 17, none⟩ = some (.pointer none) ∧ W.cell? ⟨nb, 18, none⟩ = some (.pointer none) ∧ W.cell? ⟨nb, 19, none⟩ = some (.bool false)) := hid fun W hb => by
    have h := HN2.out.ext hb
    exact ⟨h.cell (j := 9) rfl, h.cell (j := 10) rfl, h.cell (j := 11) rfl, h.cell (j := 12) rfl, h.cell (j := 13) rfl, h.cell (j := 14) rfl, h.cell (j := 15) rfl, h.cell (j := 16) rfl, h.cell (j := 17) rfl, h.cell (j := 18) rfl, h.cell (j := 19) rfl⟩
  have CB : Hid (∀ W, Below W2.heap.size W2 W → Calls Tryz.prog 199 #[.pointer (some ⟨stb, 0, none⟩)] W fun e w' => e = .returned (bdA ⟨#[]⟩ ⟨#[]⟩ ⟨#[]⟩ ⟨#[]⟩ ⟨#[]⟩ ⟨#[]⟩ ⟨#[]⟩ ⟨#[]⟩) ∧ Below W2.heap.size W2 w') := hid fun W hb => (board_any ⟨#[]⟩ ⟨#[]⟩ ⟨#[]⟩ ⟨#[]⟩ ⟨#[]⟩ ⟨#[]⟩ ⟨#[]⟩ ⟨#[]⟩ (HS2.out.ext hb)).mono fun e w' ⟨h1, h2⟩ => ⟨h1, hb.trans (h2.mono hb.size)⟩
  have CK : Hid (∀ W, Below W2.heap.size W2 W → Calls Tryz.prog 198 #[bdA ⟨#[]⟩ ⟨#[]⟩ ⟨#[]⟩ ⟨#[]⟩ ⟨#[]⟩ ⟨#[]⟩ ⟨#[]⟩ ⟨#[]⟩] W fun e w' => ∃ a n c, e = .returned (.slice a n c) ∧ Below W2.heap.size W2 w') := hid fun W hb => (pack_any bdOk0 W).mono fun e w' ⟨v, h1, h2, h3⟩ => by
    obtain ⟨a, c, rfl, -⟩ := h2.row
    exact ⟨_, _, _, h1, hb.trans (h3.mono hb.size)⟩
  have CQ : Hid (∀ W, Below W2.heap.size W2 W → Calls Tryz.prog 200 #[.int .u64 i] W fun e w' => ∃ b, e = .returned (.pointer (some ⟨b, 0, none⟩)) ∧ Below W2.heap.size W2 w') := hid fun W hb => (queueNew_any i W).mono fun e w' ⟨h1, h2⟩ => ⟨_, h1, by rw [h2]; exact below_allocS hb _⟩
  have CI : Hid (∀ W, Below W2.heap.size W2 W → Calls Tryz.prog 201 #[.agg #[.int .u64 i, .slice am n1 cm, .slice al n2 cl, .slice ad n3 cd]] W fun e w' => ∃ b, e = .returned (.pointer (some ⟨b, 0, none⟩)) ∧ Below W2.heap.size W2 w') := hid fun W hb => by
    have h := inboxNew_any (A := ⟨am, al, ad, cm, cl, cd⟩) HF.out (HV2.out.ext hb)
    rw [HX.out] at h
    exact h.mono fun e w' ⟨b, m1, m2, am, cm, h1, h2⟩ => ⟨b, h1, hb.trans (h2.below.mono hb.size)⟩
  have CS : Hid (∀ W, Below W2.heap.size W2 W → Calls Tryz.prog 202 #[.agg #[.int .u64 i, .slice am n1 cm, .slice al n2 cl, .slice ad n3 cd]] W fun e w' => ∃ b, e = .returned (.pointer (some ⟨b, 0, none⟩)) ∧ Below W2.heap.size W2 w' ∧ Hid (∃ m1 m2 A', StabNew W2 w' V i b m1 m2 A')) := hid fun W hb => by
    have h := stabNew_any (A := ⟨am, al, ad, cm, cl, cd⟩) HF.out (HV2.out.ext hb)
    rw [HX.out] at h
    exact h.mono fun e w' ⟨b, m1, m2, A', h1, h2⟩ => ⟨b, h1, hb.trans (h2.below.mono hb.size), hid ⟨m1, m2, A', ⟨Nat.le_trans hb.size h2.lt, Nat.le_trans hb.size h2.lt1, Nat.le_trans hb.size h2.lt2, hb.trans (h2.below.mono hb.size), h2.box, h2.view, h2.map1, h2.map2, fun G hG W' hm => h2.stab G (fun k hk => Nat.lt_of_lt_of_le (hG k hk) hb.size) W' hm⟩⟩⟩
  have H0 : Below W2.heap.size W2 W2.drew := (Below.refl _ _).drew
  go_enter Tryz.func148, Tryz.ntmps148
  go_upto_region 2 with fail
  rw [HX2.out]
  clear hW1 g0 g1 g2 g3
  -- MARK
  go_cut [30] (fun _ wx => ∃ ba bn bc qb ib tb, Hid (BoxL wx nb 233 (nodeC x y l m t 1 (.slice none 0 0) 0 h [.int .u64 i, .slice am n1 cm, .slice al n2 cl, .slice ad n3 cd, .int .u64 0, .slice ba bn bc, .pointer (some ⟨qb, 0, none⟩), .pointer (some ⟨ib, 0, none⟩), .pointer none, .pointer (some ⟨tb, 0, none⟩), .bool false] led (.pointer (some ⟨stb, 0, none⟩)) acc (.pointer (some ⟨pb, 0, none⟩)) wb rum0 0 m1 m2 (.slice none 0 0) sb false (.slice none 0 0) (.slice none 0 0))) ∧ Hid (Mut (fun k => k = nb) W2 wx) ∧ Hid (∃ m1 m2 A', BoxL wx tb 393 (vcl V i A' ++ [.map (some m1), .map (some m2)]) ∧ ViewR wx A'.am A'.al A'.ad V ∧ MapIs wx m1 pidV n64 []))
  case first =>
    refine wp_region_held_drew (S := fun W => Mut (fun k => k = nb) W2 W ∧ W.cell? ⟨nb, 21, none⟩ = some (.pointer (some ⟨stb, 0, none⟩)) ∧ W.cell? ⟨w.heap.size, 0, none⟩ = some (.int .u64 i) ∧ W.cell? ⟨w.heap.size, 1, none⟩ = some (.slice am n1 cm) ∧ W.cell? ⟨w.heap.size, 2, none⟩ = some (.slice al n2 cl) ∧ W.cell? ⟨w.heap.size, 3, none⟩ = some (.slice ad n3 cd)) (by kernel_rfl) (HS.out _ H0) (fun hHeld => ?_)
    refine wpAnyH_take (i := 0) (oi := _) (v := .pointer (some ⟨nb, 0, none⟩)) rfl (by kernel_rfl) (by kernel_rfl) (by kernel_rfl) (fun _ _ _ h => h) (Or.inl ⟨by rfl, ?_⟩) (by assumption) ?_
    · intro W hSw
      try dsimp only at hSw
      go_simp
    try simp only [Act.put, List.getElem_toArray, List.getElem_cons_succ, List.getElem_cons_zero, List.setIfInBounds_toArray, List.set_cons_zero, List.set_cons_succ]
    refine wpAnyH_take (i := 1) (oi := _) (v := .agg #[.int .u64 i, .slice am n1 cm, .slice al n2 cl, .slice ad n3 cd]) rfl (by kernel_rfl) (by kernel_rfl) (by kernel_rfl) (fun _ _ _ h => h) (Or.inl ⟨by rfl, ?_⟩) (by assumption) ?_
    · intro W hSw
      try dsimp only at hSw
      go_simp
    try simp only [Act.put, List.getElem_toArray, List.getElem_cons_succ, List.getElem_cons_zero, List.setIfInBounds_toArray, List.set_cons_zero, List.set_cons_succ]
    refine wpAnyH_take (i := 2) (oi := _) (v := .int .u64 0) rfl (by kernel_rfl) (by kernel_rfl) (by kernel_rfl) (fun _ _ _ h => h) (Or.inl ⟨by rfl, ?_⟩) (by assumption) ?_
    · intro W hSw
      try dsimp only at hSw
      go_simp
    try simp only [Act.put, List.getElem_toArray, List.getElem_cons_succ, List.getElem_cons_zero, List.setIfInBounds_toArray, List.set_cons_zero, List.set_cons_succ]
    refine wpAnyH_take (i := 3) (oi := _) (v := .pointer (some ⟨nb, 0, none⟩)) rfl (by kernel_rfl) (by kernel_rfl) (by kernel_rfl) (fun _ _ _ h => h) (Or.inl ⟨by rfl, ?_⟩) (by assumption) ?_
    · intro W hSw
      try dsimp only at hSw
      go_simp
    try simp only [Act.put, List.getElem_toArray, List.getElem_cons_succ, List.getElem_cons_zero, List.setIfInBounds_toArray, List.set_cons_zero, List.set_cons_succ]
    refine wpAnyH_take (i := 4) (oi := _) (v := .pointer (some ⟨nb, 0, none⟩)) rfl (by kernel_rfl) (by kernel_rfl) (by kernel_rfl) (fun _ _ _ h => h) (Or.inl ⟨by rfl, ?_⟩) (by assumption) ?_
    · intro W hSw
      try dsimp only at hSw
      go_simp
    try simp only [Act.put, List.getElem_toArray, List.getElem_cons_succ, List.getElem_cons_zero, List.setIfInBounds_toArray, List.set_cons_zero, List.set_cons_succ]
    refine wpAnyH_take (i := 5) (oi := _) (v := .pointer (some ⟨nb, 21, none⟩)) rfl (by kernel_rfl) (by kernel_rfl) (by kernel_rfl) (fun _ _ _ h => h) (Or.inl ⟨by rfl, ?_⟩) (by assumption) ?_
    · intro W hSw
      try dsimp only at hSw
      go_simp
    try simp only [Act.put, List.getElem_toArray, List.getElem_cons_succ, List.getElem_cons_zero, List.setIfInBounds_toArray, List.set_cons_zero, List.set_cons_succ]
    refine wpAnyH_take (i := 6) (oi := _) (v := .pointer (some ⟨stb, 0, none⟩)) rfl (by kernel_rfl) (by kernel_rfl) (by kernel_rfl) (fun _ _ _ h => h) (Or.inl ⟨by rfl, ?_⟩) (by assumption) ?_
    · intro W hSw
      try dsimp only at hSw
      go_simp
    try simp only [Act.put, List.getElem_toArray, List.getElem_cons_succ, List.getElem_cons_zero, List.setIfInBounds_toArray, List.set_cons_zero, List.set_cons_succ]
    refine wpAnyH_take (i := 9) (oi := _) (v := .pointer (some ⟨w.heap.size, 0, none⟩)) rfl (by kernel_rfl) (by kernel_rfl) (by kernel_rfl) (fun _ _ _ h => h) (Or.inl ⟨by rfl, ?_⟩) (by assumption) ?_
    · intro W hSw
      try dsimp only at hSw
      go_simp
    try simp only [Act.put, List.getElem_toArray, List.getElem_cons_succ, List.getElem_cons_zero, List.setIfInBounds_toArray, List.set_cons_zero, List.set_cons_succ]
    refine wpAnyH_take (i := 10) (oi := _) (v := .int .u64 i) rfl (by kernel_rfl) (by kernel_rfl) (by kernel_rfl) (fun _ _ _ h => h) (Or.inl ⟨by rfl, ?_⟩) (by assumption) ?_
    · intro W hSw
      try dsimp only at hSw
      go_simp
    try simp only [Act.put, List.getElem_toArray, List.getElem_cons_succ, List.getElem_cons_zero, List.setIfInBounds_toArray, List.set_cons_zero, List.set_cons_succ]
    refine wpAnyH_take (i := 12) (oi := _) (v := .agg #[.int .u64 i, .slice am n1 cm, .slice al n2 cl, .slice ad n3 cd]) rfl (by kernel_rfl) (by kernel_rfl) (by kernel_rfl) (fun _ _ _ h => h) (Or.inl ⟨by rfl, ?_⟩) (by assumption) ?_
    · intro W hSw
      try dsimp only at hSw
      go_simp
    try simp only [Act.put, List.getElem_toArray, List.getElem_cons_succ, List.getElem_cons_zero, List.setIfInBounds_toArray, List.set_cons_zero, List.set_cons_succ]
    refine wpAnyH_take (i := 14) (oi := _) (v := .agg #[.int .u64 i, .slice am n1 cm, .slice al n2 cl, .slice ad n3 cd]) rfl (by kernel_rfl) (by kernel_rfl) (by kernel_rfl) (fun _ _ _ h => h) (Or.inl ⟨by rfl, ?_⟩) (by assumption) ?_
    · intro W hSw
      try dsimp only at hSw
      go_simp
    try simp only [Act.put, List.getElem_toArray, List.getElem_cons_succ, List.getElem_cons_zero, List.setIfInBounds_toArray, List.set_cons_zero, List.set_cons_succ]
    refine wpAnyH_ready (rs := [7]) (by kernel_rfl) (by simp) ?_
    refine AllReadyH.cons (o := _) rfl (fun K hK => ?_) AllReadyH.nil
    go_simp
    (refine (CB.out _ H0).mono ?_)
    rintro e w6 ⟨rfl, hb6⟩
    refine hK.out _ _ (HS.out _ hb6) (fun hHeld => ?_)
    clear hK K
    try simp only [Act.put, List.getElem_toArray, List.getElem_cons_succ, List.getElem_cons_zero, List.setIfInBounds_toArray, List.set_cons_zero, List.set_cons_succ]
    refine wpAnyH_ready (rs := [8]) (by kernel_rfl) (by simp) ?_
    refine AllReadyH.cons (o := _) rfl (fun K hK => ?_) AllReadyH.nil
    go_simp
    (refine (CK.out _ hb6).mono ?_)
    rintro e w7 ⟨ba, bn, bc, rfl, hb7⟩
    refine hK.out _ _ (HS.out _ hb7) (fun hHeld => ?_)
    clear hK K
    try simp only [Act.put, List.getElem_toArray, List.getElem_cons_succ, List.getElem_cons_zero, List.setIfInBounds_toArray, List.set_cons_zero, List.set_cons_succ]
    refine wpAnyH_ready (rs := [11]) (by kernel_rfl) (by simp) ?_
    refine AllReadyH.cons (o := _) rfl (fun K hK => ?_) AllReadyH.nil
    go_simp
    (refine (CQ.out _ hb7).mono ?_)
    rintro e w8 ⟨qb, rfl, hb8⟩
    refine hK.out _ _ (HS.out _ hb8) (fun hHeld => ?_)
    clear hK K
    try simp only [Act.put, List.getElem_toArray, List.getElem_cons_succ, List.getElem_cons_zero, List.setIfInBounds_toArray, List.set_cons_zero, List.set_cons_succ]
    refine wpAnyH_ready (rs := [13]) (by kernel_rfl) (by simp) ?_
    refine AllReadyH.cons (o := _) rfl (fun K hK => ?_) AllReadyH.nil
    go_simp
    (refine (CI.out _ hb8).mono ?_)
    rintro e w9 ⟨ib, rfl, hb9⟩
    refine hK.out _ _ (HS.out _ hb9) (fun hHeld => ?_)
    clear hK K
    try simp only [Act.put, List.getElem_toArray, List.getElem_cons_succ, List.getElem_cons_zero, List.setIfInBounds_toArray, List.set_cons_zero, List.set_cons_succ]
    refine wpAnyH_ready (rs := [15]) (by kernel_rfl) (by simp) ?_
    refine AllReadyH.cons (o := _) rfl (fun K hK => ?_) AllReadyH.nil
    go_simp
    (refine (CS.out _ hb9).mono ?_)
    rintro e w10 ⟨tb, rfl, hb10, HT⟩
    have fz10 := HFZ.out _ hb10
    obtain ⟨k9, k10, k11, k12, k13, k14, k15, k16, k17, k18, k19⟩ := HCG.out _ hb10
    refine hK.out _ _ (HS.out _ hb10) (fun hHeld => ?_)
    clear hK K
    try simp only [Act.put, List.getElem_toArray, List.getElem_cons_succ, List.getElem_cons_zero, List.setIfInBounds_toArray, List.set_cons_zero, List.set_cons_succ]
    refine wpAnyH_ready (rs := [16]) (by kernel_rfl) (by simp) ?_
    refine AllReadyH.cons (o := _) rfl (fun K hK => ?_) AllReadyH.nil
    go_simp
    refine hK.out _ _ (HS.out _ hb10) (fun hHeld => ?_)
    clear hK K
    try simp only [Act.put, List.getElem_toArray, List.getElem_cons_succ, List.getElem_cons_zero, List.setIfInBounds_toArray, List.set_cons_zero, List.set_cons_succ]
    refine wpAnyH_ready (rs := [17]) (by kernel_rfl) (by simp) ?_
    refine AllReadyH.cons (o := _) rfl (fun K hK => ?_) AllReadyH.nil
    go_simp
    refine hK.out _ _ (HS.out _ hb10) (fun hHeld => ?_)
    clear hK K
    try simp only [Act.put, List.getElem_toArray, List.getElem_cons_succ, List.getElem_cons_zero, List.setIfInBounds_toArray, List.set_cons_zero, List.set_cons_succ]
    refine wpAnyH_ready (rs := [18]) (by kernel_rfl) (by simp) ?_
    refine AllReadyH.cons (o := _) rfl (fun K hK => ?_) AllReadyH.nil
    go_simp
    refine hK.out _ _ (HS.out _ hb10) (fun hHeld => ?_)
    clear hK K
    try simp only [Act.put, List.getElem_toArray, List.getElem_cons_succ, List.getElem_cons_zero, List.setIfInBounds_toArray, List.set_cons_zero, List.set_cons_succ]
    refine wpAnyH_ready (rs := [19]) (by kernel_rfl) (by simp) ?_
    refine AllReadyH.cons (o := _) rfl (fun K hK => ?_) AllReadyH.nil
    go_simp
    refine hK.out _ _ (HSF.out _ hb10 _ _ _ _ _ _ _ _ _ _ _ _ rfl) (fun hHeld => ?_)
    clear hK K
    try simp only [Act.put, List.getElem_toArray, List.getElem_cons_succ, List.getElem_cons_zero, List.setIfInBounds_toArray, List.set_cons_zero, List.set_cons_succ]
    refine wpAnyH_done (by kernel_rfl) ?_ _
    go_wp2_with fail
    go_meet
    refine ⟨ba, bn, bc, qb, ib, tb, hid (st11_box (HN2.out.ext hb10) _ _ _ _ _ _ _ _ _ _ _), hid ((Mut.of_below hb10).trans (st11_mut _ _ _ _ _ _ _ _ _ _ _ _ _)), hid ?_⟩
    obtain ⟨m1', m2', A', hT⟩ := HT.out
    have hm := st11_mut w10 nb (.int .u64 i) (.slice am n1 cm) (.slice al n2 cl) (.slice ad n3 cd) (.int .u64 0) (.slice ba bn bc) (.pointer (some ⟨qb, 0, none⟩)) (.pointer (some ⟨ib, 0, none⟩)) (.pointer none) (.pointer (some ⟨tb, 0, none⟩)) (.bool false)
    have hz := HB2.out.size
    have hzn := HZ.out.1
    exact ⟨m1', m2', A', hT.box.mut hm (fun e => by have := hT.lt; omega), hT.stab _ (fun k e => by omega) _ hm, hT.map1.same (hm.block _ hT.map1.lt fun e => by have := hT.lt1; omega)⟩
  case rest =>
    obtain ⟨ba, bn, bc, qb, ib, tb, HN3, HM3, HT3⟩ := hcut
    rename World => w3
    clear HSF HCG HFZ CB CK CQ CI CS HN2 HS HS2 H0
    have S3 : Hid (∀ W, Below w3.heap.size w3 W → Below w3.heap.size w3 W ∧ W.cell? ⟨nb, 18, none⟩ = some (.pointer (some ⟨tb, 0, none⟩)) ∧ W.cell? ⟨nb, 0, none⟩ = some (.int .u16 x) ∧ W.cell? ⟨nb, 1, none⟩ = some (.int .u32 y)) := hid fun W hb => ⟨hb, cell_toB (HN3.out.cell (j := 18) rfl) hb, cell_toB (HN3.out.cell (j := 0) rfl) hb, cell_toB (HN3.out.cell (j := 1) rfl) hb⟩
    have C3 : Hid (∀ W, Below w3.heap.size w3 W → Calls Tryz.prog 203 #[.pointer (some ⟨tb, 0, none⟩), .agg #[.int .u16 x, .int .u32 y], .int .u64 0] W fun e w' => e = .returned (.bool false) ∧ Below w3.heap.size w3 w') := hid fun W hb => by
      obtain ⟨m1', m2', A', h1, h2, h3⟩ := HT3.out
      exact (stabReport0 HF.out.id (h1.ext hb) (h2.ext hb) (h3.ext hb) x y HMEM.out).mono fun e w' ⟨g1, g2⟩ => ⟨g1, hb.trans (g2.mono hb.size)⟩
    have H3 : Below w3.heap.size w3 w3.drew := (Below.refl _ _).drew
    go_upto_region 3 with fail
    refine wp_region_held_drew (S := fun W => Below w3.heap.size w3 W ∧ W.cell? ⟨nb, 18, none⟩ = some (.pointer (some ⟨tb, 0, none⟩)) ∧ W.cell? ⟨nb, 0, none⟩ = some (.int .u16 x) ∧ W.cell? ⟨nb, 1, none⟩ = some (.int .u32 y)) (by kernel_rfl) (S3.out _ H3) (fun hHeld => ?_)
    refine wpAnyH_take (i := 0) (oi := _) (v := .pointer (some ⟨nb, 0, none⟩)) rfl (by kernel_rfl) (by kernel_rfl) (by kernel_rfl) (fun _ _ _ h => h) (Or.inl ⟨by rfl, ?_⟩) (by assumption) ?_
    · intro W hSw
      try dsimp only at hSw
      go_simp
    try simp only [Act.put, List.getElem_toArray, List.getElem_cons_succ, List.getElem_cons_zero, List.setIfInBounds_toArray, List.set_cons_zero, List.set_cons_succ]
    refine wpAnyH_take (i := 1) (oi := _) (v := .pointer (some ⟨nb, 0, none⟩)) rfl (by kernel_rfl) (by kernel_rfl) (by kernel_rfl) (fun _ _ _ h => h) (Or.inl ⟨by rfl, ?_⟩) (by assumption) ?_
    · intro W hSw
      try dsimp only at hSw
      go_simp
    try simp only [Act.put, List.getElem_toArray, List.getElem_cons_succ, List.getElem_cons_zero, List.setIfInBounds_toArray, List.set_cons_zero, List.set_cons_succ]
    refine wpAnyH_take (i := 2) (oi := _) (v := .pointer (some ⟨nb, 9, none⟩)) rfl (by kernel_rfl) (by kernel_rfl) (by kernel_rfl) (fun _ _ _ h => h) (Or.inl ⟨by rfl, ?_⟩) (by assumption) ?_
    · intro W hSw
      try dsimp only at hSw
      go_simp
    try simp only [Act.put, List.getElem_toArray, List.getElem_cons_succ, List.getElem_cons_zero, List.setIfInBounds_toArray, List.set_cons_zero, List.set_cons_succ]
    refine wpAnyH_take (i := 3) (oi := _) (v := .pointer (some ⟨nb, 18, none⟩)) rfl (by kernel_rfl) (by kernel_rfl) (by kernel_rfl) (fun _ _ _ h => h) (Or.inl ⟨by rfl, ?_⟩) (by assumption) ?_
    · intro W hSw
      try dsimp only at hSw
      go_simp
    try simp only [Act.put, List.getElem_toArray, List.getElem_cons_succ, List.getElem_cons_zero, List.setIfInBounds_toArray, List.set_cons_zero, List.set_cons_succ]
    refine wpAnyH_take (i := 4) (oi := _) (v := .pointer (some ⟨tb, 0, none⟩)) rfl (by kernel_rfl) (by kernel_rfl) (by kernel_rfl) (fun _ _ _ h => h) (Or.inl ⟨by rfl, ?_⟩) (by assumption) ?_
    · intro W hSw
      try dsimp only at hSw
      go_simp
    try simp only [Act.put, List.getElem_toArray, List.getElem_cons_succ, List.getElem_cons_zero, List.setIfInBounds_toArray, List.set_cons_zero, List.set_cons_succ]
    refine wpAnyH_take (i := 5) (oi := _) (v := .pointer (some ⟨nb, 0, none⟩)) rfl (by kernel_rfl) (by kernel_rfl) (by kernel_rfl) (fun _ _ _ h => h) (Or.inl ⟨by rfl, ?_⟩) (by assumption) ?_
    · intro W hSw
      try dsimp only at hSw
      go_simp
    try simp only [Act.put, List.getElem_toArray, List.getElem_cons_succ, List.getElem_cons_zero, List.setIfInBounds_toArray, List.set_cons_zero, List.set_cons_succ]
    refine wpAnyH_take (i := 6) (oi := _) (v := .pointer (some ⟨nb, 0, none⟩)) rfl (by kernel_rfl) (by kernel_rfl) (by kernel_rfl) (fun _ _ _ h => h) (Or.inl ⟨by rfl, ?_⟩) (by assumption) ?_
    · intro W hSw
      try dsimp only at hSw
      go_simp
    try simp only [Act.put, List.getElem_toArray, List.getElem_cons_succ, List.getElem_cons_zero, List.setIfInBounds_toArray, List.set_cons_zero, List.set_cons_succ]
    refine wpAnyH_take (i := 7) (oi := _) (v := .pointer (some ⟨nb, 0, none⟩)) rfl (by kernel_rfl) (by kernel_rfl) (by kernel_rfl) (fun _ _ _ h => h) (Or.inl ⟨by rfl, ?_⟩) (by assumption) ?_
    · intro W hSw
      try dsimp only at hSw
      go_simp
    try simp only [Act.put, List.getElem_toArray, List.getElem_cons_succ, List.getElem_cons_zero, List.setIfInBounds_toArray, List.set_cons_zero, List.set_cons_succ]
    refine wpAnyH_take (i := 8) (oi := _) (v := .agg #[.int .u16 x, .int .u32 y]) rfl (by kernel_rfl) (by kernel_rfl) (by kernel_rfl) (fun _ _ _ h => h) (Or.inl ⟨by rfl, ?_⟩) (by assumption) ?_
    · intro W hSw
      try dsimp only at hSw
      go_simp
    try simp only [Act.put, List.getElem_toArray, List.getElem_cons_succ, List.getElem_cons_zero, List.setIfInBounds_toArray, List.set_cons_zero, List.set_cons_succ]
    refine wpAnyH_take (i := 9) (oi := _) (v := .int .u64 0) rfl (by kernel_rfl) (by kernel_rfl) (by kernel_rfl) (fun _ _ _ h => h) (Or.inl ⟨by rfl, ?_⟩) (by assumption) ?_
    · intro W hSw
      try dsimp only at hSw
      go_simp
    try simp only [Act.put, List.getElem_toArray, List.getElem_cons_succ, List.getElem_cons_zero, List.setIfInBounds_toArray, List.set_cons_zero, List.set_cons_succ]
    refine wpAnyH_ready (rs := [10]) (by kernel_rfl) (by simp) ?_
    refine AllReadyH.cons (o := _) rfl (fun K hK => ?_) AllReadyH.nil
    go_simp
    (refine (C3.out _ H3).mono ?_)
    rintro e w4 ⟨rfl, hb4⟩
    refine hK.out _ _ (S3.out _ hb4) (fun hHeld => ?_)
    clear hK K
    try simp only [Act.put, List.getElem_toArray, List.getElem_cons_succ, List.getElem_cons_zero, List.setIfInBounds_toArray, List.set_cons_zero, List.set_cons_succ]
    refine wpAnyH_done (by kernel_rfl) ?_ _
    have HN4 := hid (HN3.out.ext hb4)
    have HM4 : Hid (Mut (fun k => k = nb) W2 w4) := hid (HM3.out.trans (Mut.of_below hb4))
    have C4 := hid (electStop_any (HP2.out.mut HM4.out fun e => HNE.out.1 e.symm))
    have q23 := HN4.out.cell (j := 23) rfl
    clear HN3 HM3 HT3 S3 C3 H3 hb4
    go_wp2_with fail
    refine C4.out.mono ?_
    rintro e w5 ⟨rfl, hm5, -⟩
    have HM5 : Hid (Mut (fun k => k = nb ∨ k = pb) W2 w5) := hid ((HM4.out.mono fun k _ e => .inl e).trans (hm5.mono fun k _ e => .inr e))
    have HN5 := hid (HN4.out.mut hm5 HNE.out.1)
    have HW5 := hid (HW2.out.mut HM5.out (fun e => e.elim HNE.out.2.1.symm HNE.out.2.2.2.2.2.1.symm) (fun e => e.elim HNE.out.2.2.1.symm HNE.out.2.2.2.2.2.2.1.symm))
    have HVB5 := hid (HVB2.out.mut HM5.out (fun e => by have h0 := HZ.out; rcases e with e | e <;> omega))
    have HV5 : Hid (ViewR w5 am al ad V) := hid (HV0.out.ext (below_mutN HBV.out HM5.out (by have h0 := HGE.out; intro k e; rcases e with rfl | rfl <;> omega)))
    clear HM4 HN4 C4 q23 hm5
    have S5 : Hid (∀ W, Mut (fun k => k = wb) w5 W → Mut (fun k => k = wb) w5 W ∧ W.cell? ⟨nb, 24, none⟩ = some (.pointer (some ⟨wb, 0, none⟩)) ∧ W.cell? ⟨nb, 0, none⟩ = some (.int .u16 x) ∧ W.cell? ⟨nb, 1, none⟩ = some (.int .u32 y) ∧ W.cell? ⟨w.heap.size, 0, none⟩ = some (.int .u64 i) ∧ W.cell? ⟨w.heap.size, 1, none⟩ = some (.slice am n1 cm) ∧ W.cell? ⟨w.heap.size, 2, none⟩ = some (.slice al n2 cl) ∧ W.cell? ⟨w.heap.size, 3, none⟩ = some (.slice ad n3 cd)) := hid fun W hm => by
      have h1 := HN5.out.mut hm HNE.out.2.1
      have h2 := HVB5.out.mut hm (fun e => by have h0 := HZ.out; omega)
      exact ⟨hm, h1.cell (j := 24) rfl, h1.cell (j := 0) rfl, h1.cell (j := 1) rfl, h2.cell (j := 0) rfl, h2.cell (j := 1) rfl, h2.cell (j := 2) rfl, h2.cell (j := 3) rfl⟩
    have C5 : Hid (∀ W, Below w5.heap.size w5 W → Calls Tryz.prog 206 #[.agg #[.int .u64 i, .slice am n1 cm, .slice al n2 cl, .slice ad n3 cd], .agg #[.int .u16 x, .int .u32 y]] W fun e w' => ∃ a n c, e = .returned (.slice a n c) ∧ Below w5.heap.size w5 w' ∧ Hid (∃ xs : List Pid, xs.length = n ∧ n ≤ 70368744177664 ∧ PidRow w' a xs)) := hid fun W hb => by
      have h := peers_any V am al ad cm cl cd x y W (HV5.out.ext hb) HSM.out
      rw [show viewV V am al ad cm cl cd = .agg #[.int .u64 i, .slice am n1 cm, .slice al n2 cl, .slice ad n3 cd] by unfold viewV; rw [HE.out.1, HE.out.2.1, HE.out.2.2, HF.out.id]] at h
      refine h.mono ?_
      rintro e w' ⟨v, h1, h2, h3⟩
      obtain ⟨a, c, rfl, hr, -⟩ := h2.row
      exact ⟨a, _, c, h1, hb.trans (h3.mono hb.size), hid ⟨_, rfl, by have := peers_len (V := V) (p := (x, y)); have := HSM.out.ms; omega, hr⟩⟩
    have C5b : Hid (∀ W a n c, Below w5.heap.size w5 W → Hid (∃ xs : List Pid, xs.length = n ∧ n ≤ 70368744177664 ∧ PidRow W a xs) → Calls Tryz.prog 205 #[.pointer (some ⟨wb, 0, none⟩), .slice a n c] W fun e w' => e = .returned (.tuple #[]) ∧ Mut (fun k => k = wb) w5 w') := hid fun W a n c hb hh => by
      obtain ⟨xs, rfl, hn, hr⟩ := hh.out
      exact (follow_any wb wr T [] a c xs W hn hr (HW5.out.ext hb)).mono fun e w' ⟨r', g1, g2, g3, g4⟩ => ⟨g1, (Mut.of_below hb).trans g4⟩
    have H5 : Below w5.heap.size w5 w5.drew := (Below.refl _ _).drew
    go_upto_region 5 with fail
    refine wp_region_held_drew (S := fun W => Mut (fun k => k = wb) w5 W ∧ W.cell? ⟨nb, 24, none⟩ = some (.pointer (some ⟨wb, 0, none⟩)) ∧ W.cell? ⟨nb, 0, none⟩ = some (.int .u16 x) ∧ W.cell? ⟨nb, 1, none⟩ = some (.int .u32 y) ∧ W.cell? ⟨w.heap.size, 0, none⟩ = some (.int .u64 i) ∧ W.cell? ⟨w.heap.size, 1, none⟩ = some (.slice am n1 cm) ∧ W.cell? ⟨w.heap.size, 2, none⟩ = some (.slice al n2 cl) ∧ W.cell? ⟨w.heap.size, 3, none⟩ = some (.slice ad n3 cd)) (by kernel_rfl) (S5.out _ (Mut.of_below H5)) (fun hHeld => ?_)
    refine wpAnyH_take (i := 0) (oi := _) (v := .pointer (some ⟨nb, 0, none⟩)) rfl (by kernel_rfl) (by kernel_rfl) (by kernel_rfl) (fun _ _ _ h => h) (Or.inl ⟨by rfl, ?_⟩) (by assumption) ?_
    · intro W hSw
      try dsimp only at hSw
      go_simp
    try simp only [Act.put, List.getElem_toArray, List.getElem_cons_succ, List.getElem_cons_zero, List.setIfInBounds_toArray, List.set_cons_zero, List.set_cons_succ]
    refine wpAnyH_take (i := 1) (oi := _) (v := .pointer (some ⟨nb, 0, none⟩)) rfl (by kernel_rfl) (by kernel_rfl) (by kernel_rfl) (fun _ _ _ h => h) (Or.inl ⟨by rfl, ?_⟩) (by assumption) ?_
    · intro W hSw
      try dsimp only at hSw
      go_simp
    try simp only [Act.put, List.getElem_toArray, List.getElem_cons_succ, List.getElem_cons_zero, List.setIfInBounds_toArray, List.set_cons_zero, List.set_cons_succ]
    refine wpAnyH_take (i := 2) (oi := _) (v := .pointer (some ⟨nb, 24, none⟩)) rfl (by kernel_rfl) (by kernel_rfl) (by kernel_rfl) (fun _ _ _ h => h) (Or.inl ⟨by rfl, ?_⟩) (by assumption) ?_
    · intro W hSw
      try dsimp only at hSw
      go_simp
    try simp only [Act.put, List.getElem_toArray, List.getElem_cons_succ, List.getElem_cons_zero, List.setIfInBounds_toArray, List.set_cons_zero, List.set_cons_succ]
    refine wpAnyH_take (i := 3) (oi := _) (v := .pointer (some ⟨wb, 0, none⟩)) rfl (by kernel_rfl) (by kernel_rfl) (by kernel_rfl) (fun _ _ _ h => h) (Or.inl ⟨by rfl, ?_⟩) (by assumption) ?_
    · intro W hSw
      try dsimp only at hSw
      go_simp
    try simp only [Act.put, List.getElem_toArray, List.getElem_cons_succ, List.getElem_cons_zero, List.setIfInBounds_toArray, List.set_cons_zero, List.set_cons_succ]
    refine wpAnyH_take (i := 4) (oi := _) (v := .agg #[.int .u64 i, .slice am n1 cm, .slice al n2 cl, .slice ad n3 cd]) rfl (by kernel_rfl) (by kernel_rfl) (by kernel_rfl) (fun _ _ _ h => h) (Or.inl ⟨by rfl, ?_⟩) (by assumption) ?_
    · intro W hSw
      try dsimp only at hSw
      go_simp
    try simp only [Act.put, List.getElem_toArray, List.getElem_cons_succ, List.getElem_cons_zero, List.setIfInBounds_toArray, List.set_cons_zero, List.set_cons_succ]
    refine wpAnyH_take (i := 5) (oi := _) (v := .pointer (some ⟨nb, 0, none⟩)) rfl (by kernel_rfl) (by kernel_rfl) (by kernel_rfl) (fun _ _ _ h => h) (Or.inl ⟨by rfl, ?_⟩) (by assumption) ?_
    · intro W hSw
      try dsimp only at hSw
      go_simp
    try simp only [Act.put, List.getElem_toArray, List.getElem_cons_succ, List.getElem_cons_zero, List.setIfInBounds_toArray, List.set_cons_zero, List.set_cons_succ]
    refine wpAnyH_take (i := 6) (oi := _) (v := .pointer (some ⟨nb, 0, none⟩)) rfl (by kernel_rfl) (by kernel_rfl) (by kernel_rfl) (fun _ _ _ h => h) (Or.inl ⟨by rfl, ?_⟩) (by assumption) ?_
    · intro W hSw
      try dsimp only at hSw
      go_simp
    try simp only [Act.put, List.getElem_toArray, List.getElem_cons_succ, List.getElem_cons_zero, List.setIfInBounds_toArray, List.set_cons_zero, List.set_cons_succ]
    refine wpAnyH_take (i := 7) (oi := _) (v := .pointer (some ⟨nb, 0, none⟩)) rfl (by kernel_rfl) (by kernel_rfl) (by kernel_rfl) (fun _ _ _ h => h) (Or.inl ⟨by rfl, ?_⟩) (by assumption) ?_
    · intro W hSw
      try dsimp only at hSw
      go_simp
    try simp only [Act.put, List.getElem_toArray, List.getElem_cons_succ, List.getElem_cons_zero, List.setIfInBounds_toArray, List.set_cons_zero, List.set_cons_succ]
    refine wpAnyH_take (i := 8) (oi := _) (v := .agg #[.int .u16 x, .int .u32 y]) rfl (by kernel_rfl) (by kernel_rfl) (by kernel_rfl) (fun _ _ _ h => h) (Or.inl ⟨by rfl, ?_⟩) (by assumption) ?_
    · intro W hSw
      try dsimp only at hSw
      go_simp
    try simp only [Act.put, List.getElem_toArray, List.getElem_cons_succ, List.getElem_cons_zero, List.setIfInBounds_toArray, List.set_cons_zero, List.set_cons_succ]
    refine wpAnyH_ready (rs := [9]) (by kernel_rfl) (by simp) ?_
    refine AllReadyH.cons (o := _) rfl (fun K hK => ?_) AllReadyH.nil
    go_simp
    (refine (C5.out _ H5).mono ?_)
    rintro e w6 ⟨pa, pn, pc, rfl, hb6, hh6⟩
    refine hK.out _ _ (S5.out _ (Mut.of_below hb6)) (fun hHeld => ?_)
    clear hK K
    try simp only [Act.put, List.getElem_toArray, List.getElem_cons_succ, List.getElem_cons_zero, List.setIfInBounds_toArray, List.set_cons_zero, List.set_cons_succ]
    refine wpAnyH_ready (rs := [10]) (by kernel_rfl) (by simp) ?_
    refine AllReadyH.cons (o := _) rfl (fun K hK => ?_) AllReadyH.nil
    go_simp
    (refine (C5b.out _ _ _ _ hb6 hh6).mono ?_)
    rintro e w7 ⟨rfl, hm7⟩
    refine hK.out _ _ (S5.out _ hm7) (fun hHeld => ?_)
    clear hK K
    try simp only [Act.put, List.getElem_toArray, List.getElem_cons_succ, List.getElem_cons_zero, List.setIfInBounds_toArray, List.set_cons_zero, List.set_cons_succ]
    refine wpAnyH_done (by kernel_rfl) ?_ _
    have HM7 : Hid (Mut (fun k => k = nb ∨ k = pb ∨ k = wb) W2 w7) := hid ((HM5.out.mono fun k _ e => e.elim .inl fun e => .inr (.inl e)).trans (hm7.mono fun k _ e => .inr (.inr e)))
    have HN7 := hid (HN5.out.mut hm7 HNE.out.2.1)
    have q44 := HN7.out.cell (j := 44) rfl
    have fz7 := HN7.out.frozen
    have C6 := fun fv W => deleteFuncNil_any fv W
    clear S5 C5 C5b H5 hm7 hb6 hh6 HM5 HN5 HW5 HV5 HVB5
    go_upto_region 7 with ((go_at_call 207; refine (C6 _ _).mono ?_; rintro e w8 ⟨rfl, rfl⟩))
    obtain ⟨w9, hw9⟩ : ∃ w9, w8.setCell ⟨nb, 44, none⟩ (.slice none 0 0) = w9 := ⟨_, rfl⟩
    rw [hw9]
    have hm9 : Mut (fun k => k = nb) w8 w9 := by rw [← hw9]; exact mut1
    have HN9 : Hid (BoxL w9 nb 233 (nodeC x y l m t 1 (.slice none 0 0) 0 h [.int .u64 i, .slice am n1 cm, .slice al n2 cl, .slice ad n3 cd, .int .u64 0, .slice ba bn bc, .pointer (some ⟨qb, 0, none⟩), .pointer (some ⟨ib, 0, none⟩), .pointer none, .pointer (some ⟨tb, 0, none⟩), .bool false] led (.pointer (some ⟨stb, 0, none⟩)) acc (.pointer (some ⟨pb, 0, none⟩)) wb rum0 0 m1 m2 (.slice none 0 0) sb false (.slice none 0 0) (.slice none 0 0))) := hid (by rw [← hw9]; exact HN7.out.set (j := 44) (v := .slice none 0 0))
    have HM9 : Hid (Mut (fun k => k = nb ∨ k = pb ∨ k = wb) W2 w9) := hid (HM7.out.trans (hm9.mono fun k _ e => .inl e))
    have HL9 := hid (HL2.out.mut HM9.out (fun e => by rcases e with e | e | e; exact HNE.out.2.2.2.1 e.symm; exact HNE.out.2.2.2.2.2.2.2.1 e.symm; exact HNE.out.2.2.2.2.2.2.2.2.2.1 e.symm) (fun e => by rcases e with e | e | e; exact HNE.out.2.2.2.2.1 e.symm; exact HNE.out.2.2.2.2.2.2.2.2.1 e.symm; exact HNE.out.2.2.2.2.2.2.2.2.2.2.1 e.symm))
    have HVB9 := hid (HVB2.out.mut HM9.out (fun e => by have h0 := HZ.out; rcases e with e | e | e <;> omega))
    have HV9 : Hid (ViewR w9 am al ad V) := hid (HV0.out.ext (below_mutN HBV.out HM9.out (by have h0 := HGE.out; intro k e; rcases e with rfl | rfl | rfl <;> omega)))
    clear HM7 HN7 q44 fz7 C6 hm9 hw9
    have S7 : Hid (∀ W, Mut (fun k => k = sr) w9 W → Mut (fun k => k = sr) w9 W ∧ W.cell? ⟨nb, 45, none⟩ = some (.pointer (some ⟨sb, 0, none⟩)) ∧ W.cell? ⟨w.heap.size, 1, none⟩ = some (.slice am n1 cm)) := hid fun W hm => by
      have h1 := HN9.out.mut hm HNE.out.2.2.2.2.1
      have h2 := HVB9.out.mut hm (fun e => by have h0 := HZ.out; omega)
      exact ⟨hm, h1.cell (j := 45) rfl, h2.cell (j := 1) rfl⟩
    have C7 : Hid (∀ W, Below w9.heap.size w9 W → Calls Tryz.prog 209 #[.pointer (some ⟨sb, 0, none⟩), .slice am n1 cm] W fun e w' => ∃ v, e = .returned v ∧ Mut (fun k => k = sr) w9 w') := hid fun W hb => by
      have h := keep_any sb sr [] am cm V.ms W (HL9.out.ext hb) (by simp [keys]) (by simp [keys]) (by simp) (HF.out.ms) (HV9.out.ms.ext hb)
      rw [HE.out.1] at h
      exact h.mono fun e w' ⟨g1, g2, g3⟩ => ⟨_, g1, (Mut.of_below hb).trans g3⟩
    have H9 : Below w9.heap.size w9 w9.drew := (Below.refl _ _).drew
    refine wp_region_held_drew (S := fun W => Mut (fun k => k = sr) w9 W ∧ W.cell? ⟨nb, 45, none⟩ = some (.pointer (some ⟨sb, 0, none⟩)) ∧ W.cell? ⟨w.heap.size, 1, none⟩ = some (.slice am n1 cm)) (by kernel_rfl) (S7.out _ (Mut.of_below H9)) (fun hHeld => ?_)
    refine wpAnyH_take (i := 0) (oi := _) (v := .pointer (some ⟨nb, 0, none⟩)) rfl (by kernel_rfl) (by kernel_rfl) (by kernel_rfl) (fun _ _ _ h => h) (Or.inl ⟨by rfl, ?_⟩) (by assumption) ?_
    · intro W hSw
      try dsimp only at hSw
      go_simp
    try simp only [Act.put, List.getElem_toArray, List.getElem_cons_succ, List.getElem_cons_zero, List.setIfInBounds_toArray, List.set_cons_zero, List.set_cons_succ]
    refine wpAnyH_take (i := 1) (oi := _) (v := .pointer (some ⟨nb, 0, none⟩)) rfl (by kernel_rfl) (by kernel_rfl) (by kernel_rfl) (fun _ _ _ h => h) (Or.inl ⟨by rfl, ?_⟩) (by assumption) ?_
    · intro W hSw
      try dsimp only at hSw
      go_simp
    try simp only [Act.put, List.getElem_toArray, List.getElem_cons_succ, List.getElem_cons_zero, List.setIfInBounds_toArray, List.set_cons_zero, List.set_cons_succ]
    refine wpAnyH_take (i := 2) (oi := _) (v := .pointer (some ⟨nb, 45, none⟩)) rfl (by kernel_rfl) (by kernel_rfl) (by kernel_rfl) (fun _ _ _ h => h) (Or.inl ⟨by rfl, ?_⟩) (by assumption) ?_
    · intro W hSw
      try dsimp only at hSw
      go_simp
    try simp only [Act.put, List.getElem_toArray, List.getElem_cons_succ, List.getElem_cons_zero, List.setIfInBounds_toArray, List.set_cons_zero, List.set_cons_succ]
    refine wpAnyH_take (i := 3) (oi := _) (v := .pointer (some ⟨sb, 0, none⟩)) rfl (by kernel_rfl) (by kernel_rfl) (by kernel_rfl) (fun _ _ _ h => h) (Or.inl ⟨by rfl, ?_⟩) (by assumption) ?_
    · intro W hSw
      try dsimp only at hSw
      go_simp
    try simp only [Act.put, List.getElem_toArray, List.getElem_cons_succ, List.getElem_cons_zero, List.setIfInBounds_toArray, List.set_cons_zero, List.set_cons_succ]
    refine wpAnyH_take (i := 4) (oi := _) (v := .pointer (some ⟨w.heap.size, 1, none⟩)) rfl (by kernel_rfl) (by kernel_rfl) (by kernel_rfl) (fun _ _ _ h => h) (Or.inl ⟨by rfl, ?_⟩) (by assumption) ?_
    · intro W hSw
      try dsimp only at hSw
      go_simp
    try simp only [Act.put, List.getElem_toArray, List.getElem_cons_succ, List.getElem_cons_zero, List.setIfInBounds_toArray, List.set_cons_zero, List.set_cons_succ]
    refine wpAnyH_take (i := 5) (oi := _) (v := .slice am n1 cm) rfl (by kernel_rfl) (by kernel_rfl) (by kernel_rfl) (fun _ _ _ h => h) (Or.inl ⟨by rfl, ?_⟩) (by assumption) ?_
    · intro W hSw
      try dsimp only at hSw
      go_simp
    try simp only [Act.put, List.getElem_toArray, List.getElem_cons_succ, List.getElem_cons_zero, List.setIfInBounds_toArray, List.set_cons_zero, List.set_cons_succ]
    refine wpAnyH_ready (rs := [6]) (by kernel_rfl) (by simp) ?_
    refine AllReadyH.cons (o := _) rfl (fun K hK => ?_) AllReadyH.nil
    go_simp
    (refine (C7.out _ H9).mono ?_)
    rintro e w10 ⟨kv, rfl, hm10⟩
    refine hK.out _ _ (S7.out _ hm10) (fun hHeld => ?_)
    clear hK K
    try simp only [Act.put, List.getElem_toArray, List.getElem_cons_succ, List.getElem_cons_zero, List.setIfInBounds_toArray, List.set_cons_zero, List.set_cons_succ]
    refine wpAnyH_done (by kernel_rfl) ?_ _
    have HM10 : Hid (Mut (fun k => k = nb ∨ k = pb ∨ k = wb ∨ k = sr) W2 w10) := hid ((HM9.out.mono fun k _ e => by rcases e with e | e | e; exact .inl e; exact .inr (.inl e); exact .inr (.inr (.inl e))).trans (hm10.mono fun k _ e => .inr (.inr (.inr e))))
    have HN10 := hid (HN9.out.mut hm10 HNE.out.2.2.2.2.1)
    have HVB10 := hid (HVB9.out.mut hm10 (fun e => by have h0 := HZ.out; omega))
    have HV10 : Hid (ViewR w10 am al ad V) := hid (HV0.out.ext (below_mutN HBV.out HM10.out (by have h0 := HGE.out; intro k e; rcases e with rfl | rfl | rfl | rfl <;> omega)))
    have v0 := HVB10.out.cell (j := 0) rfl
    have v1 := HVB10.out.cell (j := 1) rfl
    have v2 := HVB10.out.cell (j := 2) rfl
    have v3 := HVB10.out.cell (j := 3) rfl
    have C8 : Hid (Calls Tryz.prog 196 #[.agg #[.int .u64 i, .slice am n1 cm, .slice al n2 cl, .slice ad n3 cd]] w10 fun e w' => ∃ am' al' ad' cm' cl' cd', e = .returned (.agg #[.int .u64 i, .slice am' n1 cm', .slice al' n2 cl', .slice ad' n3 cd']) ∧ Below w10.heap.size w10 w' ∧ Hid (Stab w10.heap.size w' am' al' ad' V)) := hid (by
      have h := copyS_any (A := ⟨am, al, ad, cm, cl, cd⟩) HF.out HV10.out
      rw [HX.out] at h
      refine h.mono ?_
      rintro e w' ⟨⟨am', al', ad', cm', cl', cd'⟩, h1, h2, h3⟩
      rw [HX.out] at h1
      exact ⟨_, _, _, _, _, _, h1, h3, hid h2⟩)
    clear S7 C7 H9 hm10 HM9 HN9 HL9 HVB9 HV9
    go_wp2_with fail
    refine C8.out.mono ?_
    rintro e w11 ⟨am', al', ad', cm', cl', cd', rfl, hb11, HST⟩
    have HN11 := hid (HN10.out.ext hb11)
    have HM11 : Hid (Mut (fun k => k = nb ∨ k = pb ∨ k = wb ∨ k = sr) W2 w11) := hid (HM10.out.trans (Mut.of_below hb11))
    have HSZ : Hid (W2.heap.size ≤ w11.heap.size) := hid HM11.out.size
    have C9 := hid (tell_any 1 i 0 0 0 am' al' ad' none n1 n2 n3 0 cm' cl' cd' 0 (base := w.heap.size) HN11.out (v := .slice none 0 0) (xs := []) rfl (OwnK.nil _ _ _ _) (Nat.le_trans HB2.out.size HSZ.out) (fun e => by cases e) (by simp))
    clear C8 v0 v1 v2 v3
    go_wp2_with fail
    refine C9.out.mono ?_
    rintro e w12 ⟨rfl, v12, hO12, hN12, hm12, hg12⟩
    have HO12 := hid hO12
    have HN12 := hid hN12
    have HG12 : Hid (∀ g, v12.ownBlock = some g → W2.heap.size ≤ g) := hid fun g e => (hg12 g e).elim (fun e => by cases e) fun h => Nat.le_trans HSZ.out h
    have HM12 : Hid (Mut (fun k => k = nb ∨ k = pb ∨ k = wb ∨ k = sr) W2 w12) := hid (HM11.out.trans (hm12.mono fun k _ e => e.elim .inl fun e => by cases e))
    have HST12 : Hid (Stab w.heap.size w12 am' al' ad' V) := hid fun G hG W' hm => HST.out (fun k => k = nb ∨ G k) (fun k e => by have h0 := HZ.out; have h1 := HM10.out.size; have h2 := HB2.out.size; rcases e with e | e; omega; have := hG k e; omega) W' ((hm12.mono fun k _ e => e.elim .inl fun e => by cases e).trans (hm.mono fun k _ e => .inr e))
    have HVB12 := hid (HVB2.out.mut HM12.out (fun e => by have h0 := HZ.out; rcases e with e | e | e | e <;> omega))
    have HWS12 := hid (HWAS.out.mut HM12.out (fun e => by have h0 := HZ.out; have h1 := HZ1.out; rcases e with e | e | e | e <;> omega))
    have HV12 : Hid (ViewR w12 am al ad V) := hid (HV0.out.ext (below_mutN HBV.out HM12.out (by have h0 := HGE.out; intro k e; rcases e with rfl | rfl | rfl | rfl <;> omega)))
    clear C9 hO12 hN12 hm12 hg12 hb11
    have S9 : Hid (∀ W, Below w12.heap.size w12 W → Below w12.heap.size w12 W ∧ W.cell? ⟨w.heap.size, 0, none⟩ = some (.int .u64 i) ∧ W.cell? ⟨w.heap.size, 1, none⟩ = some (.slice am n1 cm) ∧ W.cell? ⟨w.heap.size, 2, none⟩ = some (.slice al n2 cl) ∧ W.cell? ⟨w.heap.size, 3, none⟩ = some (.slice ad n3 cd) ∧ W.cell? ⟨nb, 0, none⟩ = some (.int .u16 x) ∧ W.cell? ⟨nb, 1, none⟩ = some (.int .u32 y) ∧ W.cell? ⟨W1.heap.size, 0, none⟩ = some (.int .u64 0)) := hid fun W hb => ⟨hb, cell_toB (HVB12.out.cell (j := 0) rfl) hb, cell_toB (HVB12.out.cell (j := 1) rfl) hb, cell_toB (HVB12.out.cell (j := 2) rfl) hb, cell_toB (HVB12.out.cell (j := 3) rfl) hb, cell_toB (HN12.out.cell (j := 0) rfl) hb, cell_toB (HN12.out.cell (j := 1) rfl) hb, cell_toB (HWS12.out.cell (j := 0) rfl) hb⟩
    obtain ⟨g, hg⟩ : ∃ g, decide ((x, y) ∈ V.ds) = g := ⟨_, rfl⟩
    have C10 : Hid (∀ W, Below w12.heap.size w12 W → Calls Tryz.prog 211 #[.agg #[.int .u64 i, .slice am n1 cm, .slice al n2 cl, .slice ad n3 cd], .agg #[.int .u16 x, .int .u32 y]] W fun e w' => e = .returned (.bool g) ∧ Below w12.heap.size w12 w') := hid fun W hb => by
      have h := leads_any V am al ad cm cl cd x y W (HV12.out.ext hb)
      rw [HE.out.1, HE.out.2.1, HE.out.2.2, HF.out.id, hg] at h
      exact h.mono fun e w' ⟨g1, g2⟩ => ⟨g1, hb.trans (g2.mono hb.size)⟩
    clear hg
    have H12 : Below w12.heap.size w12 w12.drew := (Below.refl _ _).drew
    go_upto_region 9 with fail
    cases g
    case false =>
      refine wp_region_held_drew (S := fun W => Below w12.heap.size w12 W ∧ W.cell? ⟨w.heap.size, 0, none⟩ = some (.int .u64 i) ∧ W.cell? ⟨w.heap.size, 1, none⟩ = some (.slice am n1 cm) ∧ W.cell? ⟨w.heap.size, 2, none⟩ = some (.slice al n2 cl) ∧ W.cell? ⟨w.heap.size, 3, none⟩ = some (.slice ad n3 cd) ∧ W.cell? ⟨nb, 0, none⟩ = some (.int .u16 x) ∧ W.cell? ⟨nb, 1, none⟩ = some (.int .u32 y) ∧ W.cell? ⟨W1.heap.size, 0, none⟩ = some (.int .u64 0)) (by kernel_rfl) (S9.out _ H12) (fun hHeld => ?_)
      refine wpAnyH_take (i := 0) (oi := _) (v := .agg #[.int .u64 i, .slice am n1 cm, .slice al n2 cl, .slice ad n3 cd]) rfl (by kernel_rfl) (by kernel_rfl) (by kernel_rfl) (fun _ _ _ h => h) (Or.inl ⟨by rfl, ?_⟩) (by assumption) ?_
      · intro W hSw
        try dsimp only at hSw
        go_simp
      try simp only [Act.put, List.getElem_toArray, List.getElem_cons_succ, List.getElem_cons_zero, List.setIfInBounds_toArray, List.set_cons_zero, List.set_cons_succ]
      refine wpAnyH_take (i := 1) (oi := _) (v := .pointer (some ⟨nb, 0, none⟩)) rfl (by kernel_rfl) (by kernel_rfl) (by kernel_rfl) (fun _ _ _ h => h) (Or.inl ⟨by rfl, ?_⟩) (by assumption) ?_
      · intro W hSw
        try dsimp only at hSw
        go_simp
      try simp only [Act.put, List.getElem_toArray, List.getElem_cons_succ, List.getElem_cons_zero, List.setIfInBounds_toArray, List.set_cons_zero, List.set_cons_succ]
      refine wpAnyH_take (i := 2) (oi := _) (v := .pointer (some ⟨nb, 0, none⟩)) rfl (by kernel_rfl) (by kernel_rfl) (by kernel_rfl) (fun _ _ _ h => h) (Or.inl ⟨by rfl, ?_⟩) (by assumption) ?_
      · intro W hSw
        try dsimp only at hSw
        go_simp
      try simp only [Act.put, List.getElem_toArray, List.getElem_cons_succ, List.getElem_cons_zero, List.setIfInBounds_toArray, List.set_cons_zero, List.set_cons_succ]
      refine wpAnyH_take (i := 3) (oi := _) (v := .pointer (some ⟨nb, 0, none⟩)) rfl (by kernel_rfl) (by kernel_rfl) (by kernel_rfl) (fun _ _ _ h => h) (Or.inl ⟨by rfl, ?_⟩) (by assumption) ?_
      · intro W hSw
        try dsimp only at hSw
        go_simp
      try simp only [Act.put, List.getElem_toArray, List.getElem_cons_succ, List.getElem_cons_zero, List.setIfInBounds_toArray, List.set_cons_zero, List.set_cons_succ]
      refine wpAnyH_take (i := 4) (oi := _) (v := .agg #[.int .u16 x, .int .u32 y]) rfl (by kernel_rfl) (by kernel_rfl) (by kernel_rfl) (fun _ _ _ h => h) (Or.inl ⟨by rfl, ?_⟩) (by assumption) ?_
      · intro W hSw
        try dsimp only at hSw
        go_simp
      try simp only [Act.put, List.getElem_toArray, List.getElem_cons_succ, List.getElem_cons_zero, List.setIfInBounds_toArray, List.set_cons_zero, List.set_cons_succ]
      refine wpAnyH_ready (rs := [5]) (by kernel_rfl) (by simp) ?_
      refine AllReadyH.cons (o := _) rfl (fun K hK => ?_) AllReadyH.nil
      go_simp
      (refine (C10.out _ H12).mono ?_)
      rintro e w13 ⟨rfl, hb13⟩
      refine hK.out _ _ (S9.out _ hb13) (fun hHeld => ?_)
      clear hK K
      try simp only [Act.put, List.getElem_toArray, List.getElem_cons_succ, List.getElem_cons_zero, List.setIfInBounds_toArray, List.set_cons_zero, List.set_cons_succ]
      refine wpAnyH_take (i := 6) (oi := _) (v := .bool false) rfl (by kernel_rfl) (by kernel_rfl) (by kernel_rfl) (fun _ _ _ h => h) (Or.inl ⟨by rfl, ?_⟩) (by assumption) ?_
      · intro W hSw
        try dsimp only at hSw
        go_simp
      try simp only [Act.put, List.getElem_toArray, List.getElem_cons_succ, List.getElem_cons_zero, List.setIfInBounds_toArray, List.set_cons_zero, List.set_cons_succ]
      refine wpAnyH_take (i := 7) (oi := _) (v := undef) rfl (by kernel_rfl) (by kernel_rfl) (by kernel_rfl) (fun _ _ _ h => h) (Or.inr ⟨by rfl, rfl⟩) (by assumption) ?_
      try simp only [Act.put, List.getElem_toArray, List.getElem_cons_succ, List.getElem_cons_zero, List.setIfInBounds_toArray, List.set_cons_zero, List.set_cons_succ]
      refine wpAnyH_take (i := 8) (oi := _) (v := undef) rfl (by kernel_rfl) (by kernel_rfl) (by kernel_rfl) (fun _ _ _ h => h) (Or.inr ⟨by rfl, rfl⟩) (by assumption) ?_
      try simp only [Act.put, List.getElem_toArray, List.getElem_cons_succ, List.getElem_cons_zero, List.setIfInBounds_toArray, List.set_cons_zero, List.set_cons_succ]
      refine wpAnyH_take (i := 9) (oi := _) (v := undef) rfl (by kernel_rfl) (by kernel_rfl) (by kernel_rfl) (fun _ _ _ h => h) (Or.inr ⟨by rfl, rfl⟩) (by assumption) ?_
      try simp only [Act.put, List.getElem_toArray, List.getElem_cons_succ, List.getElem_cons_zero, List.setIfInBounds_toArray, List.set_cons_zero, List.set_cons_succ]
      refine wpAnyH_take (i := 10) (oi := _) (v := .bool false) rfl (by kernel_rfl) (by kernel_rfl) (by kernel_rfl) (fun _ _ _ h => h) (Or.inl ⟨by rfl, ?_⟩) (by assumption) ?_
      · intro W hSw
        try dsimp only at hSw
        go_simp
      try simp only [Act.put, List.getElem_toArray, List.getElem_cons_succ, List.getElem_cons_zero, List.setIfInBounds_toArray, List.set_cons_zero, List.set_cons_succ]
      refine wpAnyH_done (by kernel_rfl) ?_ _
      go_wp2_with fail
      refine bodyPost_end (results_none rfl _ _ _) rfl ⟨rfl, ⟨_, v12, ⟨am', al', ad', cm', cl', cd'⟩, HN12.out.ext hb13, rfl, rfl, rfl, ?_, HST12.out.ext hb13⟩, (Mut.of_below HB2.out).trans (HM12.out.trans (Mut.of_below hb13))⟩
      rw [HE.out.1, HE.out.2.1, HE.out.2.2]
      exact HO12.out.ext hb13
    case true =>
      refine wp_region_held_drew (S := fun W => Below w12.heap.size w12 W ∧ W.cell? ⟨w.heap.size, 0, none⟩ = some (.int .u64 i) ∧ W.cell? ⟨w.heap.size, 1, none⟩ = some (.slice am n1 cm) ∧ W.cell? ⟨w.heap.size, 2, none⟩ = some (.slice al n2 cl) ∧ W.cell? ⟨w.heap.size, 3, none⟩ = some (.slice ad n3 cd) ∧ W.cell? ⟨nb, 0, none⟩ = some (.int .u16 x) ∧ W.cell? ⟨nb, 1, none⟩ = some (.int .u32 y) ∧ W.cell? ⟨W1.heap.size, 0, none⟩ = some (.int .u64 0)) (by kernel_rfl) (S9.out _ H12) (fun hHeld => ?_)
      refine wpAnyH_take (i := 0) (oi := _) (v := .agg #[.int .u64 i, .slice am n1 cm, .slice al n2 cl, .slice ad n3 cd]) rfl (by kernel_rfl) (by kernel_rfl) (by kernel_rfl) (fun _ _ _ h => h) (Or.inl ⟨by rfl, ?_⟩) (by assumption) ?_
      · intro W hSw
        try dsimp only at hSw
        go_simp
      try simp only [Act.put, List.getElem_toArray, List.getElem_cons_succ, List.getElem_cons_zero, List.setIfInBounds_toArray, List.set_cons_zero, List.set_cons_succ]
      refine wpAnyH_take (i := 1) (oi := _) (v := .pointer (some ⟨nb, 0, none⟩)) rfl (by kernel_rfl) (by kernel_rfl) (by kernel_rfl) (fun _ _ _ h => h) (Or.inl ⟨by rfl, ?_⟩) (by assumption) ?_
      · intro W hSw
        try dsimp only at hSw
        go_simp
      try simp only [Act.put, List.getElem_toArray, List.getElem_cons_succ, List.getElem_cons_zero, List.setIfInBounds_toArray, List.set_cons_zero, List.set_cons_succ]
      refine wpAnyH_take (i := 2) (oi := _) (v := .pointer (some ⟨nb, 0, none⟩)) rfl (by kernel_rfl) (by kernel_rfl) (by kernel_rfl) (fun _ _ _ h => h) (Or.inl ⟨by rfl, ?_⟩) (by assumption) ?_
      · intro W hSw
        try dsimp only at hSw
        go_simp
      try simp only [Act.put, List.getElem_toArray, List.getElem_cons_succ, List.getElem_cons_zero, List.setIfInBounds_toArray, List.set_cons_zero, List.set_cons_succ]
      refine wpAnyH_take (i := 3) (oi := _) (v := .pointer (some ⟨nb, 0, none⟩)) rfl (by kernel_rfl) (by kernel_rfl) (by kernel_rfl) (fun _ _ _ h => h) (Or.inl ⟨by rfl, ?_⟩) (by assumption) ?_
      · intro W hSw
        try dsimp only at hSw
        go_simp
      try simp only [Act.put, List.getElem_toArray, List.getElem_cons_succ, List.getElem_cons_zero, List.setIfInBounds_toArray, List.set_cons_zero, List.set_cons_succ]
      refine wpAnyH_take (i := 4) (oi := _) (v := .agg #[.int .u16 x, .int .u32 y]) rfl (by kernel_rfl) (by kernel_rfl) (by kernel_rfl) (fun _ _ _ h => h) (Or.inl ⟨by rfl, ?_⟩) (by assumption) ?_
      · intro W hSw
        try dsimp only at hSw
        go_simp
      try simp only [Act.put, List.getElem_toArray, List.getElem_cons_succ, List.getElem_cons_zero, List.setIfInBounds_toArray, List.set_cons_zero, List.set_cons_succ]
      refine wpAnyH_ready (rs := [5]) (by kernel_rfl) (by simp) ?_
      refine AllReadyH.cons (o := _) rfl (fun K hK => ?_) AllReadyH.nil
      go_simp
      (refine (C10.out _ H12).mono ?_)
      rintro e w13 ⟨rfl, hb13⟩
      refine hK.out _ _ (S9.out _ hb13) (fun hHeld => ?_)
      clear hK K
      try simp only [Act.put, List.getElem_toArray, List.getElem_cons_succ, List.getElem_cons_zero, List.setIfInBounds_toArray, List.set_cons_zero, List.set_cons_succ]
      refine wpAnyH_take (i := 6) (oi := _) (v := .bool true) rfl (by kernel_rfl) (by kernel_rfl) (by kernel_rfl) (fun _ _ _ h => h) (Or.inl ⟨by rfl, ?_⟩) (by assumption) ?_
      · intro W hSw
        try dsimp only at hSw
        go_simp
      try simp only [Act.put, List.getElem_toArray, List.getElem_cons_succ, List.getElem_cons_zero, List.setIfInBounds_toArray, List.set_cons_zero, List.set_cons_succ]
      refine wpAnyH_take (i := 7) (oi := _) (v := .pointer (some ⟨W1.heap.size, 0, none⟩)) rfl (by kernel_rfl) (by kernel_rfl) (by kernel_rfl) (fun _ _ _ h => h) (Or.inl ⟨by rfl, ?_⟩) (by assumption) ?_
      · intro W hSw
        try dsimp only at hSw
        go_simp
      try simp only [Act.put, List.getElem_toArray, List.getElem_cons_succ, List.getElem_cons_zero, List.setIfInBounds_toArray, List.set_cons_zero, List.set_cons_succ]
      refine wpAnyH_take (i := 8) (oi := _) (v := .int .u64 0) rfl (by kernel_rfl) (by kernel_rfl) (by kernel_rfl) (fun _ _ _ h => h) (Or.inl ⟨by rfl, ?_⟩) (by assumption) ?_
      · intro W hSw
        try dsimp only at hSw
        go_simp
      try simp only [Act.put, List.getElem_toArray, List.getElem_cons_succ, List.getElem_cons_zero, List.setIfInBounds_toArray, List.set_cons_zero, List.set_cons_succ]
      refine wpAnyH_take (i := 9) (oi := _) (v := .bool false) rfl (by kernel_rfl) (by kernel_rfl) (by kernel_rfl) (fun _ _ _ h => h) (Or.inl ⟨by rfl, ?_⟩) (by assumption) ?_
      · intro W hSw
        try dsimp only at hSw
        go_simp
      try simp only [Act.put, List.getElem_toArray, List.getElem_cons_succ, List.getElem_cons_zero, List.setIfInBounds_toArray, List.set_cons_zero, List.set_cons_succ]
      refine wpAnyH_take (i := 10) (oi := _) (v := .bool false) rfl (by kernel_rfl) (by kernel_rfl) (by kernel_rfl) (fun _ _ _ h => h) (Or.inl ⟨by rfl, ?_⟩) (by assumption) ?_
      · intro W hSw
        try dsimp only at hSw
        go_simp
      try simp only [Act.put, List.getElem_toArray, List.getElem_cons_succ, List.getElem_cons_zero, List.setIfInBounds_toArray, List.set_cons_zero, List.set_cons_succ]
      refine wpAnyH_done (by kernel_rfl) ?_ _
      go_wp2_with fail
      refine bodyPost_end (results_none rfl _ _ _) rfl ⟨rfl, ⟨_, v12, ⟨am', al', ad', cm', cl', cd'⟩, HN12.out.ext hb13, rfl, rfl, rfl, ?_, HST12.out.ext hb13⟩, (Mut.of_below HB2.out).trans (HM12.out.trans (Mut.of_below hb13))⟩
      rw [HE.out.1, HE.out.2.1, HE.out.2.2]
      exact HO12.out.ext hb13
end Go.Proofs.YtehagnbphamjhaaGreatDoor

