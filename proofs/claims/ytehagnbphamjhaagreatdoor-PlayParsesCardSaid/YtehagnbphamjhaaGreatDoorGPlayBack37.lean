/- Parts of the proof: NK NW1 NL NM NN NP OT NQ NR OR2 NT NU. -/
import Derived.Test.YtehagnbphamjhaaGreatDoorNF
namespace Go.Proofs.YtehagnbphamjhaaGreatDoor
open Go.RowKit
/-! ### Found of a member -/
theorem hub0_mut {w w' : World} {N : Nat → Prop} {G : Nat → Prop} {h r : Nat} {sf : Pid} (H : HubIs w N h r sf []) (hm : Mut G w w') (h1 : ¬ G h) (h2 : ¬ G r) : HubIs w' (fpH h r []) h r sf [] :=
  ⟨(hm.cell (by exact H.lt) h1).trans H.c0, (hm.cell (by exact H.lt) h1).trans H.c1, (hm.cell (by exact H.lt) h1).trans H.c2, .inl rfl, .inr (.inl rfl), H.hr, H.map.same (hm.block _ H.map.lt h2), fun x hx => (by cases hx), fun x hx => (by cases hx), List.Pairwise.nil, by simp, by simp, fun x hx => (by cases hx)⟩
structure Founded (w w' : World) (V : View) (i : Nat) (x y : Int) (nb h r : Nat) : Prop where
  box : ∃ (cs : List Value) (v : Value) (A : VAd), BoxL w' nb 233 cs ∧ cs[8]? = some (.pointer (some ⟨h, 0, none⟩)) ∧ cs[47]? = some (.slice none 0 0) ∧ cs[48]? = some v ∧ OwnK w' w.heap.size 57 9 v [[.int .i64 1, .int .u64 i, .slice A.am V.ms.length A.cm, .slice A.al V.ls.length A.cl, .slice A.ad V.ds.length A.cd, .int .u16 0, .int .u32 0, .int .u64 0, .slice none 0 0]] ∧ v.ownBlock ≠ some nb ∧ (∃ B, nb < B ∧ Stab B w' A.am A.al A.ad V ∧ w.heap.size ≤ B)
  hub : HubIs w' (fpH h r []) h r (x, y) []
  below : Below w.heap.size w w'
  ge : w.heap.size ≤ nb ∧ w.heap.size ≤ h ∧ w.heap.size ≤ r ∧ nb ≠ h ∧ nb ≠ r
set_option maxRecDepth 100000 in
set_option maxHeartbeats 12800000 in
theorem found_any {w : World} {l : List Pid} {b : Bnd} {a : Option Addr} {c n i : Nat} {V : View} {x y : Int} (hV : Hid (firstV l b = (V, 0))) (hn : Hid (l.length = n)) (hnl : n ≤ 1000) (hrow : PidRow w a l) (hok : ∀ p ∈ l, ok p) (hbo : BndOk b) (hf : FitV V i) (hs : Small V) (hp : (x, y) ∈ V.ms) :
    Calls Tryz.prog 72 #[.agg #[.int .u16 x, .int .u32 y], .slice a n c, .agg #[.int .i64 b.least, .int .i64 b.most, .int .i64 b.tmo]] w fun e w' => ∃ nb h r, e = .returned (.pointer (some ⟨nb, 0, none⟩)) ∧ Founded w w' V i x y nb h r := by
  obtain ⟨n1, e1⟩ : ∃ q, V.ms.length = q := ⟨_, rfl⟩
  obtain ⟨n2, e2⟩ : ∃ q, V.ls.length = q := ⟨_, rfl⟩
  obtain ⟨n3, e3⟩ : ∃ q, V.ds.length = q := ⟨_, rfl⟩
  have hx : ∀ am al ad cm cl cd, (vcl V i ⟨am, al, ad, cm, cl, cd⟩).toArray = #[.int .u64 i, .slice am n1 cm, .slice al n2 cl, .slice ad n3 cd] := by intros; unfold vcl; rw [e1, e2, e3]
  obtain ⟨l0, hl0⟩ : ∃ z, b.least = z := ⟨_, rfl⟩
  obtain ⟨m0, hm0⟩ : ∃ z, b.most = z := ⟨_, rfl⟩
  obtain ⟨t0, ht0⟩ : ∃ z, b.tmo = z := ⟨_, rfl⟩
  obtain ⟨W2, hW2⟩ : ∃ W2, (w.alloc (.cells #[.int .u16 x, .int .u32 y] 46)).alloc (.cells #[.int .i64 l0, .int .i64 m0, .int .i64 t0] 60) = W2 := ⟨_, rfl⟩
  have hb2 : Below w.heap.size w W2 := by rw [← hW2]; exact ((Below.refl _ _).alloc (Nat.le_refl _) _).alloc (by simp) _
  have hpb : BoxL W2 w.heap.size 46 [.int .u16 x, .int .u32 y] := by rw [← hW2]; exact (BoxL.made w _ _).ext ((Below.refl _ _).alloc (Nat.le_refl _) _)
  have hbb : BoxL W2 (w.heap.size + 1) 60 [.int .i64 l0, .int .i64 m0, .int .i64 t0] := by rw [← hW2]; exact BoxL.madeN _ _ _ (by simp)
  have HB2 := hid hb2
  have HPB := hid hpb
  have HBB := hid hbb
  have C1 : Hid (Calls Tryz.prog 103 #[.slice a n c, .agg #[.int .i64 l0, .int .i64 m0, .int .i64 t0]] W2 fun e w' => ∃ am al ad cm cl cd, e = .returned (.tuple #[.agg #[.int .u64 i, .slice am n1 cm, .slice al n2 cl, .slice ad n3 cd], .int .i64 0]) ∧ Below W2.heap.size W2 w' ∧ Hid (ViewR w' am al ad V)) := hid (by
    have h := layFirst_any (c := c) hV hn hnl (hrow.ext hb2) hok hbo
    rw [hl0, hm0, ht0] at h
    refine h.mono ?_
    rintro e w' ⟨qm, ql, qd, km, kl, kd, h1, h2, h3⟩
    rw [e1, e2, e3, hf.id] at h1
    exact ⟨_, _, _, _, _, _, h1, ⟨h3.os, h3.tape, h3.output, h3.size, fun k hk => h3.block k hk fun e => e⟩, hid h2.r⟩)
  have HF := hid hf
  have HSM := hid hs
  have HX := hid hx
  have HMEM := hid hp
  have HE := hid (And.intro e1 (And.intro e2 e3))
  have b0 := hbb.cell (j := 0) rfl
  have b1 := hbb.cell (j := 1) rfl
  have b2 := hbb.cell (j := 2) rfl
  rw [hl0, hm0, ht0]
  clear hV hn hrow hok hbo hf hs hx hp e1 e2 e3 hb2 hpb hbb hl0 hm0 ht0 hnl
  go_enter Tryz.func72, Tryz.ntmps72
  go_wp2_with fail
  refine C1.out.mono ?_
  rintro e w3 ⟨am, al, ad, cm, cl, cd, rfl, hb3, HV3⟩
  clear C1 b0 b1 b2 hW2
  obtain ⟨W4, hW4⟩ : ∃ W4, w3.alloc (.cells #[.int .u64 i, .slice am n1 cm, .slice al n2 cl, .slice ad n3 cd] 54) = W4 := ⟨_, rfl⟩
  have hb4 : Below w3.heap.size w3 W4 := by rw [← hW4]; exact (Below.refl _ _).alloc (Nat.le_refl _) _
  have hvb : BoxL W4 w3.heap.size 54 [.int .u64 i, .slice am n1 cm, .slice al n2 cl, .slice ad n3 cd] := by rw [← hW4]; exact BoxL.made w3 _ _
  obtain ⟨vb, hvbe⟩ : ∃ z, w3.heap.size = z := ⟨_, rfl⟩
  have hvz : vb < W4.heap.size := by rw [← hvbe]; exact hvb.lt
  have HB4 : Hid (Below w.heap.size w W4) := hid (HB2.out.trans ((hb3.trans (hb4.mono hb3.size)).mono HB2.out.size))
  have HB24 : Hid (Below W2.heap.size W2 W4) := hid (hb3.trans (hb4.mono hb3.size))
  have HV4 := hid (HV3.out.ext hb4)
  have HVB := hid hvb
  go_upto_region 2 with fail
  try rw [hW4]
  try rw [hvbe]
  rw [hvbe] at HVB
  clear hW4 hvbe hb4 hvb hb3 HV3
  have CH : Hid (∀ W, Below W4.heap.size W4 W → Calls Tryz.prog 104 #[.agg #[.int .u64 i, .slice am n1 cm, .slice al n2 cl, .slice ad n3 cd], .agg #[.int .u16 x, .int .u32 y]] W fun e w' => e = .returned (.bool true) ∧ Below W4.heap.size W4 w') := hid fun W hb => by
    have h := hasView_any V am al ad cm cl cd x y W (HV4.out.ext hb)
    rw [decide_eq_true HMEM.out, HE.out.1, HE.out.2.1, HE.out.2.2, HF.out.id] at h
    exact h.mono fun e w' ⟨h1, h2⟩ => ⟨h1, hb.trans (h2.mono hb.size)⟩
  have v0 := HVB.out.cell (j := 0) rfl
  have v1 := HVB.out.cell (j := 1) rfl
  have v2 := HVB.out.cell (j := 2) rfl
  have v3 := HVB.out.cell (j := 3) rfl
  have p0 := (HPB.out.ext HB24.out).cell (j := 0) rfl
  have p1 := (HPB.out.ext HB24.out).cell (j := 1) rfl
  go_wp2_with (go_at_call 104; refine (CH.out _ (Below.refl _ _)).mono ?_; rintro e w5 ⟨rfl, hb5⟩; have HB5 := hid hb5; replace p0 := cell_toB p0 hb5; replace p1 := cell_toB p1 hb5; have b0 := ((HBB.out.ext HB24.out).ext hb5).cell (j := 0) rfl; have b1 := ((HBB.out.ext HB24.out).ext hb5).cell (j := 1) rfl; have b2 := ((HBB.out.ext HB24.out).ext hb5).cell (j := 2) rfl; clear v0 v1 v2 v3 hb5)
  have HV5 := hid (HV4.out.ext HB5.out)
  clear p0 p1 b0 b1 b2 CH
  refine (blank_any x y l0 m0 t0 w5).mono ?_
  rintro e w6 ⟨nb, h, r, wb, wr, sb, sr, m1, m2, rfl, hB⟩
  have HBL := hid hB
  have C6 := begin0_any (A := ⟨am, al, ad, cm, cl, cd⟩) (w0 := w5) HF.out HSM.out HV5.out hB.below hB.fresh HMEM.out hB.box hB.watch hB.set hB.apart
  rw [HX.out] at C6
  have C6 := hid C6
  have HVB6 := hid ((HVB.out.ext HB5.out).ext hB.below)
  clear hB
  have v0 := HVB6.out.cell (j := 0) rfl
  have v1 := HVB6.out.cell (j := 1) rfl
  have v2 := HVB6.out.cell (j := 2) rfl
  have v3 := HVB6.out.cell (j := 3) rfl
  go_wp2_with fail
  refine C6.out.mono ?_
  rintro e w7 ⟨rfl, hG⟩
  have HG := hid hG
  clear hG C6 v0 v1 v2 v3
  go_wp2_with fail
  go_ret
  refine ⟨nb, h, r, rfl, ?_⟩
  obtain ⟨cs, v, A, h1, h2, h3, h4, h5, h6⟩ := HG.out.box
  have hz5 : w.heap.size ≤ w5.heap.size := Nat.le_trans HB4.out.size HB5.out.size
  have hz6 : w5.heap.size ≤ w6.heap.size := HBL.out.below.size
  have hnb : nb < w6.heap.size := HBL.out.box.lt
  have hge := HBL.out.fresh
  have hap := HBL.out.apart
  have g1 := hge nb (by simp)
  have g2 := hge wb (by simp)
  have g3 := hge sr (by simp)
  have g4 := hge h (by simp)
  have g5 := hge r (by simp)
  have n1 : nb ≠ h := fun e => by rw [e] at hap; simp at hap
  have n2 : nb ≠ r := fun e => by rw [e] at hap; simp at hap
  have n3 : h ≠ wb := fun e => by rw [e] at hap; simp at hap
  have n4 : h ≠ sr := fun e => by rw [e] at hap; simp at hap
  have n5 : r ≠ wb := fun e => by rw [e] at hap; simp at hap
  have n6 : r ≠ sr := fun e => by rw [e] at hap; simp at hap
  refine ⟨⟨cs, v, A, h1, h2, h3, h4, h5.mono (by omega), fun e => by have := (h5.blk e).1; omega, w6.heap.size, hnb, h6, by omega⟩, hub0_mut HBL.out.hub HG.out.mt (fun e => ?_) (fun e => ?_), ?_, ⟨by omega, by omega, by omega, n1, n2⟩⟩
  · rcases e with e | e | e
    · exact n1 e.symm
    · exact n3 e
    · exact n4 e
  · rcases e with e | e | e
    · exact n2 e.symm
    · exact n5 e
    · exact n6 e
  · have hb6 : Below w.heap.size w w6 := HB4.out.trans ((HB5.out.trans (HBL.out.below.mono HB5.out.size)).mono HB4.out.size)
    exact below_mutN hb6 HG.out.mt (fun k e => by rcases e with e | e | e <;> omega)
end Go.Proofs.YtehagnbphamjhaaGreatDoor

namespace Go.Proofs.YtehagnbphamjhaaGreatDoor
open Go.RowKit Go.Shelf
attribute [local go_sem] Oper.semAt_some
/-! ### maps.Keys of the beings, collected -/
set_option maxRecDepth 100000 in
set_option maxHeartbeats 4000000 in
theorem keys1_inW (F : Fence) (n : Nat) (hf : F.fn 173) (hro : F.round = none) (hn : 1 ≤ n) (l Bm r : Nat) (L : List (Pid × Nat)) (J Jx : List Pid → World → Prop)
    (hY : ∀ pre x W, J pre W → pre.length < L.length → YieldAt F (n - 1) Tryz.prog l #[pidV x] W fun e W' => (e = .returned (.bool true) ∧ J (pre ++ [x]) W' ∧ KeepsWalks W W') ∨ (e = .returned (.bool false) ∧ Jx (pre ++ [x]) W'))
    (W : World) (hJ : AbidesFrom W.heap.size J) (hm : W.cell? ⟨Bm, 0, none⟩ = some (.map (some r))) (hM : MapIs W r pidV ptrV L) (h0 : J [] W) :
    CallsIn F n Tryz.prog 173 #[.func (.yield l) #[] #[], .pointer (some ⟨Bm, 0, none⟩)] W fun e W' => (∃ v, e = .returned v) ∧ ((∃ xs : List Pid, xs.Perm (L.map (·.1)) ∧ J xs W') ∨ (∃ pre, True ∧ Jx pre W')) := by
  refine callsIn_of_wp Tryz.func173 rfl hf ?_ hro
  simp only [Tryz.ntmps173, List.size_toArray, List.length_cons, List.length_nil, Nat.reduceAdd, Nat.reduceSub, Array.replicate_succ, Array.replicate_zero, List.push_toArray, List.append_toArray, List.nil_append, List.cons_append]
  gi_wp2_with (first
    | (gi_at_range; refine wpListIn_range_is hM Tryz.underlying139 rfl rfl rfl ?_; intro w0 hR0 hb0)
    | gi_in)
  go_frame
  gi_loopw [3] (fun _ wr => ∃ (got : List Pid) (left : List (Pid × Nat)), RangeIs wr r W.heap.size pidV ptrV L left ∧ Hid ((got ++ left.map (·.1)).Perm (L.map (·.1))) ∧ got.length + left.length = L.length ∧ J got wr) (fun _ wr => wr.rangeLeft r W.heap.size)
  case atStart =>
    exact ⟨[], L, hR0, hid (List.Perm.refl _), by simp, hJ [] W w0 none h0 (grownBy_below hb0) (fun r e => by cases e)⟩
  case round =>
    obtain ⟨got, left, hR, hP, hlen, hJs⟩ := hrel
    have HLEN := hid hlen
    have HLM := hid hR.left_eq
    clear hlen
    gi_wp2_with (first
      | (gi_at_next; refine wpListIn_next_is hR rfl rfl rfl ?_ ?_)
      | gi_in)
    · intro hl
      gi_wp2
      go_end0
      exact ⟨⟨_, rfl⟩, .inl ⟨got, by have := hP.out; rw [hl.out] at this; simpa using this, hJs⟩⟩
    · intro x y u0 s1 s2 w1 hl hR1 hbut hen
      have hJ2 : J got w1 := hJ got wr w1 (some W.heap.size) hJs (grownBy_but hbut) (fun r e => by cases e; exact ⟨Nat.le_refl _, hR.iter⟩)
      obtain ⟨w2, hw2⟩ : ∃ w2, w1.alloc (.cells #[.int .u16 x, .int .u32 y] 46) = w2 := ⟨_, rfl⟩
      have hJ3 : J got w2 := by rw [← hw2]; exact hJ got w1 _ none hJ2 (World.grownBy_alloc w1 _ none) (fun r e => by cases e)
      have hR2 : RangeIs w2 r W.heap.size pidV ptrV L (s1 ++ s2) := by rw [← hw2]; exact hR1.ext ((Below.refl _ _).alloc (Nat.le_refl _) _)
      have hc0 : w2.cell? ⟨w1.heap.size, 0, none⟩ = some (.int .u16 x) := by rw [← hw2]; simp
      have hc1 : w2.cell? ⟨w1.heap.size, 1, none⟩ = some (.int .u32 y) := by rw [← hw2]; simp
      have HL := hid hl
      have HLT2 : Hid ((got ++ [(x, y)]).length + (s1 ++ s2).length = L.length) := hid (by
        have h1 := HLEN.out
        have e : left.length = s1.length + (s2.length + 1) := by rw [hl.out]; simp
        simp; omega)
      have hlt : got.length < L.length := by
        have h1 := HLEN.out
        have e : left.length = s1.length + (s2.length + 1) := by rw [hl.out]; simp
        omega
      obtain ⟨fn, tmps, assign, body, hy, hRd⟩ := hY got (x, y) w2 hJ3 hlt
      gi_wp2
      refine hRd.mono ?_
      rintro e W3 (⟨rfl, hJ4, hk4⟩ | ⟨rfl, hJx4⟩)
      · gi_wp2
        have hR4 := hR2.walks hk4
        have HL4 := hid hR4.left_eq
        go_roundw
        case rel => exact ⟨got ++ [(x, y)], s1 ++ s2, hR4, hid ((List.Perm.trans (by rw [HL.out, List.append_assoc]; simp only [List.map_append, List.map_cons]; exact List.Perm.append_left _ (by simpa using List.perm_middle.symm)) hP.out)), HLT2.out, hJ4⟩
        case measure => rw [HL4.out, HLM.out, HL.out]; simp
      · gi_wp2
        refine bodyPost_ret (results_none rfl _ _ _) rfl ?_
        exact ⟨⟨_, rfl⟩, .inr ⟨got ++ [(x, y)], trivial, hJx4⟩⟩
theorem keys_stopsW (F : Fence) (n : Nat) (hf : F.fn 173) (hro : F.round = none) (hn : 1 ≤ n) (Bm r : Nat) (L : List (Pid × Nat)) (w : World) (hB : Bm < w.heap.size) (hm : w.cell? ⟨Bm, 0, none⟩ = some (.map (some r))) (hM : MapIs w r pidV ptrV L) :
    SeqStopsK F n Tryz.prog 173 #[.pointer (some ⟨Bm, 0, none⟩)] (fun x : Pid => #[pidV x]) KeepsWalks (fun xs => xs.Perm (L.map (·.1))) (fun _ => True) L.length w := fun l J Jx W hW hJ _ hY h0 =>
  keys1_inW F n hf hro hn l Bm r L J Jx hY W hJ ((hW.cell (p := ⟨Bm, 0, none⟩) hB).trans hm) (hM.ext hW) h0
theorem keysOf_anyW (r : Nat) (w : World) : Calls Tryz.prog 114 #[.map (some r)] w fun e w' => e = .returned (.func (.func 173) #[] #[.pointer (some ⟨w.heap.size, 0, none⟩)]) ∧ w' = w.alloc (.cells #[.map (some r)] 139) := by
  go_enter Tryz.func114, Tryz.ntmps114
  go_wp2
  go_ret
  exact ⟨rfl, rfl⟩
set_option maxRecDepth 100000 in
set_option maxHeartbeats 8000000 in
theorem appendSeq_inW (F : Fence) (n : Nat) (h58 : F.fn 172) (hf : F.fn 173) (hro : F.round = none) (hn : 3 ≤ n) (Bm r : Nat) (L : List (Pid × Nat)) (w : World) (hB : Bm < w.heap.size) (hm : w.cell? ⟨Bm, 0, none⟩ = some (.map (some r))) (hM : MapIs w r pidV ptrV L) (hL : L.length ≤ 1000000) :
    CallsIn F n Tryz.prog 172 #[.slice none 0 0, .func (.func 173) #[] #[.pointer (some ⟨Bm, 0, none⟩)]] w fun e w' => ∃ v xs, e = .returned v ∧ OwnP w' w.heap.size v xs ∧ xs.Perm (L.map (·.1)) ∧ Below w.heap.size w w' := by
  have h1 : 1 ≤ n := by omega
  obtain ⟨i0, hi, hz0, hz1, hz2⟩ := info_parts info36
  refine callsIn_of_wp_marks Tryz.func172 rfl h58 ?_ hro
  simp only [Tryz.ntmps172, List.size_toArray, List.length_cons, List.length_nil, Nat.reduceAdd, Nat.reduceSub, Array.replicate_succ, Array.replicate_zero, List.push_toArray, List.append_toArray, List.nil_append, List.cons_append]
  gi_wp2
  have bB := Boxed.new w 51 (.slice none 0 0)
  obtain ⟨W0, hW0⟩ : ∃ W0, w.alloc (.cells #[.slice none 0 0] 51) = W0 := ⟨_, rfl⟩
  have hB0 : Below w.heap.size w W0 := by rw [← hW0]; exact (Below.refl _ w).alloc (Nat.le_refl _) _
  have hsz : W0.heap.size = w.heap.size + 1 := by rw [← hW0]; simp
  rw [hW0] at bB ⊢
  clear hW0
  refine wpIn_rangeFunc_ownH hro h1 (gf := 173) (lb := #[.pointer (some ⟨Bm, 0, none⟩)]) rfl hf (enters_of Tryz.func173 (by kernel_rfl) rfl)
    (keys_stopsW F (n - 1) hf hro (by omega) Bm r L W0 (by omega) ((hB0.cell (by exact hB)).trans hm) (hM.ext hB0)) walksK_t walksK_b (Below.refl _ _) (fun _ => rfl)
    (fun pre W => (∃ v, Boxed W w.heap.size 51 v ∧ W.ownsRow w.heap.size 46 2 v pre.length (pidCells pre) ∧ True) ∧ Below w.heap.size w W)
    (fun _ _ _ => False)
    (OwnFrom.and (Own.from (holdsRow_own w.heap.size w.heap.size 51 46 2 (fun pre : List Pid => pre.length) (fun pre => pidCells pre) (fun _ _ => True)) _) (ownFrom_below (Nat.le_refl _) (by omega)))
    (fun _ _ _ _ _ hs _ _ => hs)
    ⟨⟨_, bB, World.ownsRow_nil _ _ _ _, trivial⟩, hB0⟩
    (fun x a' W => ∃ Bx, w.heap.size < Bx ∧ Boxed2 W Bx x ∧ a' = { tmps := #[.slice none 0 0, .func (.func 173) #[] #[.pointer (some ⟨Bm, 0, none⟩)], .pointer (some ⟨w.heap.size, 0, none⟩), undef, .slice none 0 0, .pointer (some ⟨Bx, 0, none⟩), .func (.func 173) #[] #[.pointer (some ⟨Bm, 0, none⟩)], pidV x, undef, undef, undef, undef, undef], defers := [] })
    (fun x a' _ X Y row hs hg hr => by obtain ⟨Bx, h1, h2, h3⟩ := hs; exact ⟨Bx, h1, boxed2_own Bx x () X Y row h2 hg (fun r e => (hr r e).2), h3⟩)
    ?assign ?body ?done ?stop
  case assign =>
    rintro l pre ⟨x, y⟩ W K ⟨⟨v, bv, hr, -⟩, hB1⟩ hK
    gi_wp2
    refine hK _ _ ((KeepsOthers.alloc _ _).from _) (KeepsWalks.alloc _ _) ⟨⟨v, bv.alloc _, hr.alloc _, trivial⟩, hB1.alloc hB1.size _⟩ ⟨W.heap.size, by have := bv.lt; omega, World.alloc_heap_new W _, rfl⟩
  case body =>
    rintro l pre ⟨x, y⟩ a' W hl ⟨rr, hrr⟩ ⟨⟨v, bv, hrow, -⟩, hB1⟩ ⟨Bx, hBx, bX, rfl⟩ hlt
    have cv := bv.cell
    have fv := bv.frozen
    obtain ⟨cx, cy⟩ := bX.cells
    have hbz := hB1.size
    gi_wp2_with (first
      | (gi_at_builtin; refine wpListIn_append_own _ rfl _ _ 51 rfl w.heap.size 46 i0 _ 2 8 Tryz.underlying51 hi hz0 hz1 hz2 rfl (by decide) _ _ _ rfl (hrow.alloc _) ⟨W.heap.size, 0, none⟩ 1 1 [.int .u16 x, .int .u32 y] rfl rfl (cells_two_new W x y) (fun u hu => by simp at hu; rcases hu with rfl | rfl <;> rfl) (by unfold maxLen; omega) (by omega) (by simp; omega) ?_; intro v' w1 hown' hgrow _; obtain ⟨g', cap', rfl⟩ := ownsRow_succ hown'; obtain ⟨hv1, hv2, hr2, hk2, hb2⟩ := bv.appended (by decide) hrow hbz (Nat.le_refl _) hown' hgrow; have hc1 := hv1.cell; have hf1 := hv1.frozen)
      | gi_in)
    have hr3 : (w1.setCell ⟨w.heap.size, 0, none⟩ (.slice (some ⟨g', 0, none⟩) (pre.length + 1) cap')).ownsRow w.heap.size 46 2 (.slice (some ⟨g', 0, none⟩) (pre.length + 1) cap') (pre ++ [(x, y)]).length (pidCells (pre ++ [(x, y)])) := by
      rw [pidCells_append, List.length_append]; exact hr2
    exact ⟨hk2.from _, hk2.walks, ⟨_, hv2, hr3⟩, hB1.trans hb2⟩
  case done =>
    rintro D xs W hD hP ⟨⟨v, bv, hrow, -⟩, hB1⟩ hK
    have cv := bv.cell
    gi_wp2
    refine ⟨by simp, .inl ⟨_, _, rfl, run_takeDeferred hK, ?_⟩⟩
    exact ⟨_, results_tmp rfl _ _ _, v, xs, rfl, ownsRow_putObj hrow _ hK rfl, hP, hB1.trans (belowK_b (w := w) (Nat.le_refl _) W D _ _ (by omega) hK rfl rfl)⟩
  case stop =>
    rintro D c pre W _ _ h _
    exact h.elim
theorem collect_anyW (Bm r : Nat) (L : List (Pid × Nat)) (w : World) (hB : Bm < w.heap.size) (hm : w.cell? ⟨Bm, 0, none⟩ = some (.map (some r))) (hM : MapIs w r pidV ptrV L) (hL : L.length ≤ 1000000) :
    Calls Tryz.prog 113 #[.func (.func 173) #[] #[.pointer (some ⟨Bm, 0, none⟩)]] w fun e w' => ∃ v xs, e = .returned v ∧ OwnP w' w.heap.size v xs ∧ xs.Perm (L.map (·.1)) ∧ Below w.heap.size w w' := by
  have CA : Calls Tryz.prog 172 #[.slice none 0 0, .func (.func 173) #[] #[.pointer (some ⟨Bm, 0, none⟩)]] w fun e w' => ∃ v xs, e = .returned v ∧ OwnP w' w.heap.size v xs ∧ xs.Perm (L.map (·.1)) ∧ Below w.heap.size w w' :=
    callsIn_wide.1 (appendSeq_inW Fence.wide 3 trivial trivial rfl (Nat.le_refl _) Bm r L w hB hm hM hL)
  go_enter Tryz.func113, Tryz.ntmps113
  go_wp2_with (go_at_call 172; refine CA.mono ?_; rintro e w1 ⟨v, xs, rfl, h1, h2, h3⟩)
  go_ret
  exact ⟨_, xs, rfl, h1, h2, h3⟩
end Go.Proofs.YtehagnbphamjhaaGreatDoor

namespace Go.Proofs.YtehagnbphamjhaaGreatDoor
open Go.RowKit
/-! ### a world: after and add of one who founded -/
def beingC (nb : Nat) (x y : Int) (lv : Value) : List Value := [.pointer (some ⟨nb, 0, none⟩), .int .u16 x, .int .u32 y, .bool true, lv]
set_option maxRecDepth 100000 in
set_option maxHeartbeats 12800000 in
theorem after0_any {w : World} {N : Nat → Prop} {wd xb nb h r i n1 n2 n3 base : Nat} {x y : Int} {cs : List Value} {v : Value} {am al ad : Option Addr} {cm cl cd : Nat} {sf : Pid} (hX : BoxL w xb 150 (beingC nb x y (.slice none 0 0))) (hB : BoxL w nb 233 cs) (h8 : cs[8]? = some (.pointer (some ⟨h, 0, none⟩))) (h47 : cs[47]? = some (.slice none 0 0)) (h48 : cs[48]? = some v) (hO : OwnK w base 57 9 v [[.int .i64 1, .int .u64 i, .slice am n1 cm, .slice al n2 cl, .slice ad n3 cd, .int .u16 0, .int .u32 0, .int .u64 0, .slice none 0 0]]) (hH : HubIs w N h r sf []) (hvn : v.ownBlock ≠ some nb) (hxn : xb ≠ nb) (hh : h ≠ nb) (hr : r ≠ nb) (hhx : h ≠ xb) (hrx : r ≠ xb) :
    Calls Tryz.prog 107 #[.pointer (some ⟨wd, 0, none⟩), .pointer (some ⟨xb, 0, none⟩)] w fun e w' => e = .returned (.tuple #[]) ∧ ∃ v8, BoxL w' xb 150 (beingC nb x y v8) ∧ OwnK w' w.heap.size 57 9 v8 [[.int .i64 1, .int .u64 i, .slice am n1 cm, .slice al n2 cl, .slice ad n3 cd, .int .u16 0, .int .u32 0, .int .u64 0, .slice none 0 0]] ∧ Mut (fun k => k = nb ∨ k = xb) w w' := by
  obtain ⟨i0, hi, hz0, hz1, hz2⟩ := info_parts infoEvI
  obtain ⟨g, c, hv, hbg, hgl, hcell⟩ := hO.at (i := 0) rfl
  have hv : v = .slice (some ⟨g, 0, none⟩) 1 c := hv
  subst hv
  have hgn : g ≠ nb := fun e => hvn (by rw [e]; rfl)
  have HX := hid hX
  have HB := hid hB
  have HH := hid hH
  have HXB : Hid (xb < w.heap.size) := hid hX.lt
  have HGL := hid hgl
  have HGN := hid hgn
  have H8 := hid h8
  have H47 := hid h47
  have HXN := hid hxn
  have HHR := hid (And.intro hh (And.intro hr (And.intro hhx hrx)))
  have HCE : Hid (∀ j u, ([.int .i64 1, .int .u64 i, .slice am n1 cm, .slice al n2 cl, .slice ad n3 cd, .int .u16 0, .int .u32 0, .int .u64 0, .slice none 0 0] : List Value)[j]? = some u → w.cell? ⟨g, j, none⟩ = some u) := hid fun j u hj => by simpa using hcell j u hj
  have CP := hid (fun W (hb : Below w.heap.size w W) => poll_any (hB.ext hb) h48)
  have x0 : w.drew.cell? ⟨xb, 0, none⟩ = some (.pointer (some ⟨nb, 0, none⟩)) := (hX.ext (Below.refl _ _).drew).cell (j := 0) rfl
  have x4 : w.drew.cell? ⟨xb, 4, none⟩ = some (.slice none 0 0) := (hX.ext (Below.refl _ _).drew).cell (j := 4) rfl
  have HS : Hid (∀ W, Mut (fun k => k = nb) w W → W.cell? ⟨xb, 0, none⟩ = some (.pointer (some ⟨nb, 0, none⟩))) := hid fun W hm => (HX.out.mut hm HXN.out).cell (j := 0) rfl
  have HM0 : Hid (Mut (fun k => k = nb) w w.drew) := hid (Mut.of_below (Below.refl _ _).drew)
  clear hX hB h8 h47 h48 hO hH hvn hxn hh hr hhx hrx hcell hgl hgn hbg
  go_enter Tryz.func107, Tryz.ntmps107
  go_upto_region 0 with fail
  refine wp_region_held_drew (S := fun W => W.cell? ⟨xb, 0, none⟩ = some (.pointer (some ⟨nb, 0, none⟩))) (by kernel_rfl) (HS.out _ HM0.out) (fun hHeld => ?_)
  refine wpAnyH_take (i := 0) (oi := _) (v := .pointer (some ⟨xb, 0, none⟩)) rfl (by kernel_rfl) (by kernel_rfl) (by kernel_rfl) (fun _ _ _ h => h) (Or.inl ⟨by rfl, ?_⟩) (by assumption) ?_
  · intro W hSw
    try dsimp only at hSw
    go_simp
  try simp only [Act.put, List.getElem_toArray, List.getElem_cons_succ, List.getElem_cons_zero, List.setIfInBounds_toArray, List.set_cons_zero, List.set_cons_succ]
  refine wpAnyH_take (i := 1) (oi := _) (v := .pointer (some ⟨xb, 0, none⟩)) rfl (by kernel_rfl) (by kernel_rfl) (by kernel_rfl) (fun _ _ _ h => h) (Or.inl ⟨by rfl, ?_⟩) (by assumption) ?_
  · intro W hSw
    try dsimp only at hSw
    go_simp
  try simp only [Act.put, List.getElem_toArray, List.getElem_cons_succ, List.getElem_cons_zero, List.setIfInBounds_toArray, List.set_cons_zero, List.set_cons_succ]
  refine wpAnyH_take (i := 2) (oi := _) (v := .pointer (some ⟨xb, 0, none⟩)) rfl (by kernel_rfl) (by kernel_rfl) (by kernel_rfl) (fun _ _ _ h => h) (Or.inl ⟨by rfl, ?_⟩) (by assumption) ?_
  · intro W hSw
    try dsimp only at hSw
    go_simp
  try simp only [Act.put, List.getElem_toArray, List.getElem_cons_succ, List.getElem_cons_zero, List.setIfInBounds_toArray, List.set_cons_zero, List.set_cons_succ]
  refine wpAnyH_take (i := 3) (oi := _) (v := .pointer (some ⟨xb, 4, none⟩)) rfl (by kernel_rfl) (by kernel_rfl) (by kernel_rfl) (fun _ _ _ h => h) (Or.inl ⟨by rfl, ?_⟩) (by assumption) ?_
  · intro W hSw
    try dsimp only at hSw
    go_simp
  try simp only [Act.put, List.getElem_toArray, List.getElem_cons_succ, List.getElem_cons_zero, List.setIfInBounds_toArray, List.set_cons_zero, List.set_cons_succ]
  refine wpAnyH_take (i := 5) (oi := _) (v := .pointer (some ⟨xb, 0, none⟩)) rfl (by kernel_rfl) (by kernel_rfl) (by kernel_rfl) (fun _ _ _ h => h) (Or.inl ⟨by rfl, ?_⟩) (by assumption) ?_
  · intro W hSw
    try dsimp only at hSw
    go_simp
  try simp only [Act.put, List.getElem_toArray, List.getElem_cons_succ, List.getElem_cons_zero, List.setIfInBounds_toArray, List.set_cons_zero, List.set_cons_succ]
  refine wpAnyH_take (i := 6) (oi := _) (v := .pointer (some ⟨xb, 0, none⟩)) rfl (by kernel_rfl) (by kernel_rfl) (by kernel_rfl) (fun _ _ _ h => h) (Or.inl ⟨by rfl, ?_⟩) (by assumption) ?_
  · intro W hSw
    try dsimp only at hSw
    go_simp
  try simp only [Act.put, List.getElem_toArray, List.getElem_cons_succ, List.getElem_cons_zero, List.setIfInBounds_toArray, List.set_cons_zero, List.set_cons_succ]
  refine wpAnyH_take (i := 7) (oi := _) (v := .pointer (some ⟨xb, 0, none⟩)) rfl (by kernel_rfl) (by kernel_rfl) (by kernel_rfl) (fun _ _ _ h => h) (Or.inl ⟨by rfl, ?_⟩) (by assumption) ?_
  · intro W hSw
    try dsimp only at hSw
    go_simp
  try simp only [Act.put, List.getElem_toArray, List.getElem_cons_succ, List.getElem_cons_zero, List.setIfInBounds_toArray, List.set_cons_zero, List.set_cons_succ]
  refine wpAnyH_take (i := 8) (oi := _) (v := .pointer (some ⟨nb, 0, none⟩)) rfl (by kernel_rfl) (by kernel_rfl) (by kernel_rfl) (fun _ _ _ h => h) (Or.inl ⟨by rfl, ?_⟩) (by assumption) ?_
  · intro W hSw
    try dsimp only at hSw
    go_simp
  try simp only [Act.put, List.getElem_toArray, List.getElem_cons_succ, List.getElem_cons_zero, List.setIfInBounds_toArray, List.set_cons_zero, List.set_cons_succ]
  refine wpAnyH_ready (rs := [4, 9]) (by kernel_rfl) (by simp) ?_
  refine AllReadyH.cons (o := _) rfl (fun K hK => ?_) (AllReadyH.cons (o := _) rfl (fun K hK => ?_) AllReadyH.nil)
  · go_simp
    refine hK.out _ _ (HS.out _ HM0.out) (fun hHeld => ?_)
    clear hK K
    try simp only [Act.put, List.getElem_toArray, List.getElem_cons_succ, List.getElem_cons_zero, List.setIfInBounds_toArray, List.set_cons_zero, List.set_cons_succ]
    refine wpAnyH_ready (rs := [9]) (by kernel_rfl) (by simp) ?_
    refine AllReadyH.cons (o := _) rfl (fun K hK => ?_) AllReadyH.nil
    go_simp
    (refine (CP.out _ (Below.refl _ _).drew).mono ?_)
    rintro e w6 ⟨rfl, hm6, hB6⟩
    have HM6 : Hid (Mut (fun k => k = nb) w w6) := hid (HM0.out.trans hm6)
    have HX6 := hid (HX.out.mut HM6.out HXN.out)
    have HB6 := hid hB6
    have y4 : w6.cell? ⟨xb, 4, none⟩ = some (.slice none 0 0) := HX6.out.cell (j := 4) rfl
    have HC6 : Hid (∀ j u, ([.int .i64 1, .int .u64 i, .slice am n1 cm, .slice al n2 cl, .slice ad n3 cd, .int .u16 0, .int .u32 0, .int .u64 0, .slice none 0 0] : List Value)[j]? = some u → w6.cell? ⟨g, j, none⟩ = some u) := hid fun j u hj => (HM6.out.cell (p := ⟨g, j, none⟩) (by exact HGL.out) HGN.out).trans (HCE.out j u hj)
    clear hm6 hB6
    refine hK.out _ _ (HS.out _ HM6.out) (fun hHeld => ?_)
    clear hK K
    try simp only [Act.put, List.getElem_toArray, List.getElem_cons_succ, List.getElem_cons_zero, List.setIfInBounds_toArray, List.set_cons_zero, List.set_cons_succ]
    refine wpAnyH_ready (rs := [10]) (by kernel_rfl) (by simp) ?_
    refine AllReadyH.cons (o := _) rfl (fun K hK => ?_) AllReadyH.nil
    refine step_appendE (base := w.heap.size) (b := g) (el := [.int .i64 1, .int .u64 i, .slice am n1 cm, .slice al n2 cl, .slice ad n3 cd, .int .u16 0, .int .u32 0, .int .u64 0, .slice none 0 0]) (by rfl) Tryz.underlying47 hi hz0 hz1 hz2 rfl (by decide) (by decide) (OwnK.nil _ _ _ _) rfl els9 HC6.out (by simp) HM6.out.size rfl rfl rfl ?_
    intro v8 w8 hown8 hm8 hn8
    have HM8 : Hid (Mut (fun k => k = nb) w w8) := hid (HM6.out.trans (hm8.mono fun g _ e => by cases e))
    have HX8 := hid (HX.out.mut HM8.out HXN.out)
    have HB8 := hid (HB6.out.mut hm8 (fun e => by cases e))
    have fz8 : ∀ j, w8.frozen? ⟨xb, j, none⟩ = false := HX8.out.frozen
    have q8 : w8.cell? ⟨xb, 4, none⟩ = some (.slice none 0 0) := HX8.out.cell (j := 4) rfl
    obtain ⟨ua, un, uc, hu⟩ := hown8.lit
    subst hu
    have HO8 := hid hown8
    have HG8 : Hid (∀ k, (Value.slice ua un uc).ownBlock = some k → w.heap.size ≤ k) := hid fun k e => (hown8.blk e).1
    have HS9 : Hid ((w8.setCell ⟨xb, 4, none⟩ (.slice ua un uc)).cell? ⟨xb, 0, none⟩ = some (.pointer (some ⟨nb, 0, none⟩))) := hid ((HX8.out.set (j := 4) (v := .slice ua un uc)).cell (j := 0) rfl)
    clear hown8 hm8 hn8
    refine hK.out _ _ (HS.out _ HM8.out) (fun hHeld => ?_)
    clear hK K
    try simp only [Act.put, List.getElem_toArray, List.getElem_cons_succ, List.getElem_cons_zero, List.setIfInBounds_toArray, List.set_cons_zero, List.set_cons_succ]
    refine wpAnyH_ready (rs := [11]) (by kernel_rfl) (by simp) ?_
    refine AllReadyH.cons (o := _) rfl (fun K hK => ?_) AllReadyH.nil
    go_simp
    refine hK.out _ _ (HS.out _ HM8.out) (fun hHeld => ?_)
    clear hK K
    try simp only [Act.put, List.getElem_toArray, List.getElem_cons_succ, List.getElem_cons_zero, List.setIfInBounds_toArray, List.set_cons_zero, List.set_cons_succ]
    refine wpAnyH_ready (rs := [12]) (by kernel_rfl) (by simp) ?_
    refine AllReadyH.cons (o := _) rfl (fun K hK => ?_) AllReadyH.nil
    go_simp
    refine hK.out _ _ (HS.out _ HM8.out) (fun hHeld => ?_)
    clear hK K
    try simp only [Act.put, List.getElem_toArray, List.getElem_cons_succ, List.getElem_cons_zero, List.setIfInBounds_toArray, List.set_cons_zero, List.set_cons_succ]
    refine wpAnyH_ready (rs := [13]) (by kernel_rfl) (by simp) ?_
    refine AllReadyH.cons (o := _) rfl (fun K hK => ?_) AllReadyH.nil
    go_simp
    refine hK.out _ _ (HS9.out) (fun hHeld => ?_)
    clear hK K
    try simp only [Act.put, List.getElem_toArray, List.getElem_cons_succ, List.getElem_cons_zero, List.setIfInBounds_toArray, List.set_cons_zero, List.set_cons_succ]
    refine wpAnyH_done (by kernel_rfl) ?_ _
    go_wp2_with fail
    obtain ⟨w9, hw9⟩ : ∃ w9, w8.setCell ⟨xb, 4, none⟩ (.slice ua un uc) = w9 := ⟨_, rfl⟩
    rw [hw9]
    have hm9 : Mut (fun k => k = xb) w8 w9 := by rw [← hw9]; exact mut1
    have hX9 : BoxL w9 xb 150 (beingC nb x y (.slice ua un uc)) := by rw [← hw9]; exact HX8.out.set (j := 4) (v := .slice ua un uc)
    have HM9 : Hid (Mut (fun k => k = nb ∨ k = xb) w w9) := hid ((HM8.out.mono fun k _ e => .inl e).trans (hm9.mono fun k _ e => .inr e))
    have HB9 := hid (HB8.out.mut hm9 (fun e => HXN.out e.symm))
    have HO9 := hid (HO8.out.mut hm9 (fun k e1 e2 => by have h1 := HG8.out k e1; have h2 := HXB.out; omega))
    have HX9 := hid hX9
    have z0 := hX9.cell (j := 0) rfl
    have CO := hid (outNil_any (N := fpH h r []) HB9.out ((List.getElem?_set_ne (by decide)).trans H8.out) ((List.getElem?_set_ne (by decide)).trans H47.out) (hub0_mut HH.out HM9.out (fun e => e.elim HHR.out.1 HHR.out.2.2.1) (fun e => e.elim HHR.out.2.1 HHR.out.2.2.2)))
    clear hm9 hX9 hw9 q8 fz8
    go_wp2_with fail
    refine CO.out.mono ?_
    rintro e w10 ⟨rfl, hm10, -⟩
    have HX10 := hid (HX9.out.mut hm10 HXN.out)
    have HO10 := hid (HO9.out.mut hm10 (fun k e1 e2 => by have h1 := HG8.out k e1; have h2 := HB.out.lt; omega))
    have HM10 : Hid (Mut (fun k => k = nb ∨ k = xb) w w10) := hid (HM9.out.trans (hm10.mono fun k _ e => .inl e))
    clear CO hm10 z0
    go_wp2_with fail
    go_loopw [25] (fun i wr => i = .int .i64 0 ∧ wr = w10) (fun _ _ => 0)
    case atStart => exact ⟨rfl, rfl⟩
    case round =>
      obtain ⟨rfl, rfl⟩ := hrel
      go_wp2
      refine bodyPost_end (results_none rfl _ _ _) rfl ⟨rfl, _, HX10.out, HO10.out, HM10.out⟩
  · go_simp
    (refine (CP.out _ (Below.refl _ _).drew).mono ?_)
    rintro e w6 ⟨rfl, hm6, hB6⟩
    have HM6 : Hid (Mut (fun k => k = nb) w w6) := hid (HM0.out.trans hm6)
    have HX6 := hid (HX.out.mut HM6.out HXN.out)
    have HB6 := hid hB6
    have y4 : w6.cell? ⟨xb, 4, none⟩ = some (.slice none 0 0) := HX6.out.cell (j := 4) rfl
    have HC6 : Hid (∀ j u, ([.int .i64 1, .int .u64 i, .slice am n1 cm, .slice al n2 cl, .slice ad n3 cd, .int .u16 0, .int .u32 0, .int .u64 0, .slice none 0 0] : List Value)[j]? = some u → w6.cell? ⟨g, j, none⟩ = some u) := hid fun j u hj => (HM6.out.cell (p := ⟨g, j, none⟩) (by exact HGL.out) HGN.out).trans (HCE.out j u hj)
    clear hm6 hB6
    refine hK.out _ _ (HS.out _ HM6.out) (fun hHeld => ?_)
    clear hK K
    try simp only [Act.put, List.getElem_toArray, List.getElem_cons_succ, List.getElem_cons_zero, List.setIfInBounds_toArray, List.set_cons_zero, List.set_cons_succ]
    refine wpAnyH_ready (rs := [4]) (by kernel_rfl) (by simp) ?_
    refine AllReadyH.cons (o := _) rfl (fun K hK => ?_) AllReadyH.nil
    go_simp
    refine hK.out _ _ (HS.out _ HM6.out) (fun hHeld => ?_)
    clear hK K
    try simp only [Act.put, List.getElem_toArray, List.getElem_cons_succ, List.getElem_cons_zero, List.setIfInBounds_toArray, List.set_cons_zero, List.set_cons_succ]
    refine wpAnyH_ready (rs := [10]) (by kernel_rfl) (by simp) ?_
    refine AllReadyH.cons (o := _) rfl (fun K hK => ?_) AllReadyH.nil
    refine step_appendE (base := w.heap.size) (b := g) (el := [.int .i64 1, .int .u64 i, .slice am n1 cm, .slice al n2 cl, .slice ad n3 cd, .int .u16 0, .int .u32 0, .int .u64 0, .slice none 0 0]) (by rfl) Tryz.underlying47 hi hz0 hz1 hz2 rfl (by decide) (by decide) (OwnK.nil _ _ _ _) rfl els9 HC6.out (by simp) HM6.out.size rfl rfl rfl ?_
    intro v8 w8 hown8 hm8 hn8
    have HM8 : Hid (Mut (fun k => k = nb) w w8) := hid (HM6.out.trans (hm8.mono fun g _ e => by cases e))
    have HX8 := hid (HX.out.mut HM8.out HXN.out)
    have HB8 := hid (HB6.out.mut hm8 (fun e => by cases e))
    have fz8 : ∀ j, w8.frozen? ⟨xb, j, none⟩ = false := HX8.out.frozen
    have q8 : w8.cell? ⟨xb, 4, none⟩ = some (.slice none 0 0) := HX8.out.cell (j := 4) rfl
    obtain ⟨ua, un, uc, hu⟩ := hown8.lit
    subst hu
    have HO8 := hid hown8
    have HG8 : Hid (∀ k, (Value.slice ua un uc).ownBlock = some k → w.heap.size ≤ k) := hid fun k e => (hown8.blk e).1
    have HS9 : Hid ((w8.setCell ⟨xb, 4, none⟩ (.slice ua un uc)).cell? ⟨xb, 0, none⟩ = some (.pointer (some ⟨nb, 0, none⟩))) := hid ((HX8.out.set (j := 4) (v := .slice ua un uc)).cell (j := 0) rfl)
    clear hown8 hm8 hn8
    refine hK.out _ _ (HS.out _ HM8.out) (fun hHeld => ?_)
    clear hK K
    try simp only [Act.put, List.getElem_toArray, List.getElem_cons_succ, List.getElem_cons_zero, List.setIfInBounds_toArray, List.set_cons_zero, List.set_cons_succ]
    refine wpAnyH_ready (rs := [11]) (by kernel_rfl) (by simp) ?_
    refine AllReadyH.cons (o := _) rfl (fun K hK => ?_) AllReadyH.nil
    go_simp
    refine hK.out _ _ (HS.out _ HM8.out) (fun hHeld => ?_)
    clear hK K
    try simp only [Act.put, List.getElem_toArray, List.getElem_cons_succ, List.getElem_cons_zero, List.setIfInBounds_toArray, List.set_cons_zero, List.set_cons_succ]
    refine wpAnyH_ready (rs := [12]) (by kernel_rfl) (by simp) ?_
    refine AllReadyH.cons (o := _) rfl (fun K hK => ?_) AllReadyH.nil
    go_simp
    refine hK.out _ _ (HS.out _ HM8.out) (fun hHeld => ?_)
    clear hK K
    try simp only [Act.put, List.getElem_toArray, List.getElem_cons_succ, List.getElem_cons_zero, List.setIfInBounds_toArray, List.set_cons_zero, List.set_cons_succ]
    refine wpAnyH_ready (rs := [13]) (by kernel_rfl) (by simp) ?_
    refine AllReadyH.cons (o := _) rfl (fun K hK => ?_) AllReadyH.nil
    go_simp
    refine hK.out _ _ (HS9.out) (fun hHeld => ?_)
    clear hK K
    try simp only [Act.put, List.getElem_toArray, List.getElem_cons_succ, List.getElem_cons_zero, List.setIfInBounds_toArray, List.set_cons_zero, List.set_cons_succ]
    refine wpAnyH_done (by kernel_rfl) ?_ _
    go_wp2_with fail
    obtain ⟨w9, hw9⟩ : ∃ w9, w8.setCell ⟨xb, 4, none⟩ (.slice ua un uc) = w9 := ⟨_, rfl⟩
    rw [hw9]
    have hm9 : Mut (fun k => k = xb) w8 w9 := by rw [← hw9]; exact mut1
    have hX9 : BoxL w9 xb 150 (beingC nb x y (.slice ua un uc)) := by rw [← hw9]; exact HX8.out.set (j := 4) (v := .slice ua un uc)
    have HM9 : Hid (Mut (fun k => k = nb ∨ k = xb) w w9) := hid ((HM8.out.mono fun k _ e => .inl e).trans (hm9.mono fun k _ e => .inr e))
    have HB9 := hid (HB8.out.mut hm9 (fun e => HXN.out e.symm))
    have HO9 := hid (HO8.out.mut hm9 (fun k e1 e2 => by have h1 := HG8.out k e1; have h2 := HXB.out; omega))
    have HX9 := hid hX9
    have z0 := hX9.cell (j := 0) rfl
    have CO := hid (outNil_any (N := fpH h r []) HB9.out ((List.getElem?_set_ne (by decide)).trans H8.out) ((List.getElem?_set_ne (by decide)).trans H47.out) (hub0_mut HH.out HM9.out (fun e => e.elim HHR.out.1 HHR.out.2.2.1) (fun e => e.elim HHR.out.2.1 HHR.out.2.2.2)))
    clear hm9 hX9 hw9 q8 fz8
    go_wp2_with fail
    refine CO.out.mono ?_
    rintro e w10 ⟨rfl, hm10, -⟩
    have HX10 := hid (HX9.out.mut hm10 HXN.out)
    have HO10 := hid (HO9.out.mut hm10 (fun k e1 e2 => by have h1 := HG8.out k e1; have h2 := HB.out.lt; omega))
    have HM10 : Hid (Mut (fun k => k = nb ∨ k = xb) w w10) := hid (HM9.out.trans (hm10.mono fun k _ e => .inl e))
    clear CO hm10 z0
    go_wp2_with fail
    go_loopw [25] (fun i wr => i = .int .i64 0 ∧ wr = w10) (fun _ _ => 0)
    case atStart => exact ⟨rfl, rfl⟩
    case round =>
      obtain ⟨rfl, rfl⟩ := hrel
      go_wp2
      refine bodyPost_end (results_none rfl _ _ _) rfl ⟨rfl, _, HX10.out, HO10.out, HM10.out⟩
end Go.Proofs.YtehagnbphamjhaaGreatDoor

namespace Go.Proofs.YtehagnbphamjhaaGreatDoor
open Go.RowKit
/-! ### a world: add of one who founded, all, Lives -/
def worldC (fl : Nat) (l m t : Int) (mr : Nat) (l0 : Int) (sent log : Value) (lost : Int) : List Value :=
  [.pointer (some ⟨fl, 0, none⟩), .int .i64 l, .int .i64 m, .int .i64 t, .map (some mr), .int .u32 l0] ++ List.replicate 15 (.int .u32 0) ++ List.replicate 16 (.int .u16 0) ++ [sent, log, .int .i64 lost]
set_option maxRecDepth 100000 in
set_option maxHeartbeats 12800000 in
theorem add0_any {w : World} {N : Nat → Prop} {wd fl mr nb h r i n1 n2 n3 base : Nat} {l m t : Int} {cs : List Value} {v : Value} {am al ad : Option Addr} {cm cl cd : Nat} {sf : Pid} {s1 s2 : Value} {ls : Int} (hD : BoxL w wd 143 (worldC fl l m t mr 0 s1 s2 ls)) (hM : MapIs w mr pidV ptrV []) (hB : BoxL w nb 233 cs) (h8 : cs[8]? = some (.pointer (some ⟨h, 0, none⟩))) (h47 : cs[47]? = some (.slice none 0 0)) (h48 : cs[48]? = some v) (hO : OwnK w base 57 9 v [[.int .i64 1, .int .u64 i, .slice am n1 cm, .slice al n2 cl, .slice ad n3 cd, .int .u16 0, .int .u32 0, .int .u64 0, .slice none 0 0]]) (hH : HubIs w N h r sf []) (hvn : v.ownBlock ≠ some nb) (hh : h ≠ nb) (hr : r ≠ nb) (hwn : wd ≠ nb) (hmn : mr ≠ nb) (hmw : mr ≠ wd) (hvm : v.ownBlock ≠ some mr ∧ v.ownBlock ≠ some wd) (hhm : h ≠ mr ∧ h ≠ wd ∧ r ≠ mr ∧ r ≠ wd) :
    Calls Tryz.prog 73 #[.pointer (some ⟨wd, 0, none⟩), .agg #[.int .u16 0, .int .u32 1], .pointer (some ⟨nb, 0, none⟩)] w fun e w' => e = .returned (.tuple #[]) ∧ ∃ xb v8, w.heap.size ≤ xb ∧ BoxL w' wd 143 (worldC fl l m t mr 1 s1 s2 ls) ∧ MapIs w' mr pidV ptrV [((0, 1), xb)] ∧ BoxL w' xb 150 (beingC nb 0 1 v8) ∧ OwnK w' w.heap.size 57 9 v8 [[.int .i64 1, .int .u64 i, .slice am n1 cm, .slice al n2 cl, .slice ad n3 cd, .int .u16 0, .int .u32 0, .int .u64 0, .slice none 0 0]] ∧ Mut (fun k => k = nb ∨ k = mr ∨ k = wd) w w' := by
  obtain ⟨W1, hW1⟩ : ∃ W1, w.alloc (.cells #[.int .u16 0, .int .u32 1] 46) = W1 := ⟨_, rfl⟩
  have hb1 : Below w.heap.size w W1 := by rw [← hW1]; exact (Below.refl _ _).alloc (Nat.le_refl _) _
  have hpb : BoxL W1 w.heap.size 46 [.int .u16 0, .int .u32 1] := by rw [← hW1]; exact BoxL.made w _ _
  have p0 := hpb.cell (j := 0) rfl
  have p1 := hpb.cell (j := 1) rfl
  obtain ⟨W2, hW2⟩ : ∃ W2, W1.alloc (.cells #[.pointer (some ⟨nb, 0, none⟩), .int .u16 0, .int .u32 1, .bool true, .slice none 0 0] 150) = W2 := ⟨_, rfl⟩
  have hb12 : Below W1.heap.size W1 W2 := by rw [← hW2]; exact (Below.refl _ _).alloc (Nat.le_refl _) _
  obtain ⟨xb, hxb⟩ : ∃ z, W1.heap.size = z := ⟨_, rfl⟩
  have hX : BoxL W2 xb 150 (beingC nb 0 1 (.slice none 0 0)) := by rw [← hW2, ← hxb]; exact BoxL.made W1 _ _
  have hzx : w.heap.size + 1 = xb := by rw [← hxb, ← hW1]; simp
  have hb2 : Below w.heap.size w W2 := hb1.trans (hb12.mono hb1.size)
  have hD2 := (hD.ext hb2).ext (Below.refl _ _).drew
  have hP2 := (hpb.ext hb12).ext (Below.refl _ _).drew
  have hM2 := (hM.ext hb2).ext (Below.refl _ _).drew
  obtain ⟨w3, hrun, hM3, hbut⟩ := hM2.update keyPid Tryz.underlying139 (0, 1) xb
  have hM3 : MapIs w3 mr pidV ptrV [((0, 1), xb)] := hM3
  have hrun2 : (Instr.mapUpdate 139 (.map (some mr)) (.agg #[.int .u16 0, .int .u32 1]) (.pointer (some ⟨xb, 0, none⟩))).run Tryz.prog W2.drew = .ok () w3 := hrun
  have hm3 : Mut (fun k => k = mr) W2.drew w3 := Mut.of_but hbut rfl
  have hmz := hM.lt
  have hwz := hD.lt
  have hnz := hB.lt
  have HW2 := hid hW2
  have HXB := hid hxb
  have HZ : Hid (mr < w.heap.size ∧ wd < w.heap.size ∧ nb < w.heap.size ∧ w.heap.size + 1 = xb) := hid ⟨hmz, hwz, hnz, hzx⟩
  have HNE : Hid (wd ≠ nb ∧ mr ≠ nb ∧ mr ≠ wd) := hid ⟨hwn, hmn, hmw⟩
  have HM3 := hid hM3
  have HX2 := hid (hX.ext (Below.refl _ _).drew)
  have HD2 := hid hD2
  have HP2 := hid hP2
  have HB2 : Hid (Below w.heap.size w W2.drew) := hid hb2.drew
  have Hm3 := hid hm3
  have HBX := hid hB
  have HOX := hid hO
  have HHX := hid hH
  have H8 := hid h8
  have H47 := hid h47
  have H48 := hid h48
  have HVN := hid (And.intro hvn hvm)
  have HHR := hid (And.intro hh (And.intro hr hhm))
  have HD3 := hid (hD2.mut hm3 (fun e => hmw e.symm))
  have HP3 := hid (hP2.mut hm3 (fun e => by omega))
  have SA : Hid (W2.drew.cell? ⟨wd, 4, none⟩ = some (.map (some mr)) ∧ W2.drew.cell? ⟨w.heap.size, 0, none⟩ = some (.int .u16 0) ∧ W2.drew.cell? ⟨w.heap.size, 1, none⟩ = some (.int .u32 1)) := hid ⟨hD2.cell (j := 4) rfl, hP2.cell (j := 0) rfl, hP2.cell (j := 1) rfl⟩
  have SB : Hid (w3.cell? ⟨wd, 4, none⟩ = some (.map (some mr)) ∧ w3.cell? ⟨w.heap.size, 0, none⟩ = some (.int .u16 0) ∧ w3.cell? ⟨w.heap.size, 1, none⟩ = some (.int .u32 1)) := hid ⟨HD3.out.cell (j := 4) rfl, HP3.out.cell (j := 0) rfl, HP3.out.cell (j := 1) rfl⟩
  clear hD hM hB h8 h47 h48 hO hH hvn hh hr hwn hmn hmw hvm hhm hb12 hX hb2 hD2 hP2 hM2 hrun hM3 hbut hm3 hmz hwz hnz hzx hW2 hxb hb1 hpb
  go_enter Tryz.func73, Tryz.ntmps73
  go_upto_region 2 with fail
  try rw [HW2.out]
  rw [HXB.out]
  clear hW1 p0 p1
  refine wp_region_held_drew (S := fun W => W.cell? ⟨wd, 4, none⟩ = some (.map (some mr)) ∧ W.cell? ⟨w.heap.size, 0, none⟩ = some (.int .u16 0) ∧ W.cell? ⟨w.heap.size, 1, none⟩ = some (.int .u32 1)) (by kernel_rfl) (SA.out) (fun hHeld => ?_)
  refine wpAnyH_take (i := 0) (oi := _) (v := .pointer (some ⟨wd, 0, none⟩)) rfl (by kernel_rfl) (by kernel_rfl) (by kernel_rfl) (fun _ _ _ h => h) (Or.inl ⟨by rfl, ?_⟩) (by assumption) ?_
  · intro W hSw
    try dsimp only at hSw
    go_simp
  try simp only [Act.put, List.getElem_toArray, List.getElem_cons_succ, List.getElem_cons_zero, List.setIfInBounds_toArray, List.set_cons_zero, List.set_cons_succ]
  refine wpAnyH_take (i := 1) (oi := _) (v := .pointer (some ⟨wd, 0, none⟩)) rfl (by kernel_rfl) (by kernel_rfl) (by kernel_rfl) (fun _ _ _ h => h) (Or.inl ⟨by rfl, ?_⟩) (by assumption) ?_
  · intro W hSw
    try dsimp only at hSw
    go_simp
  try simp only [Act.put, List.getElem_toArray, List.getElem_cons_succ, List.getElem_cons_zero, List.setIfInBounds_toArray, List.set_cons_zero, List.set_cons_succ]
  refine wpAnyH_take (i := 2) (oi := _) (v := .pointer (some ⟨wd, 4, none⟩)) rfl (by kernel_rfl) (by kernel_rfl) (by kernel_rfl) (fun _ _ _ h => h) (Or.inl ⟨by rfl, ?_⟩) (by assumption) ?_
  · intro W hSw
    try dsimp only at hSw
    go_simp
  try simp only [Act.put, List.getElem_toArray, List.getElem_cons_succ, List.getElem_cons_zero, List.setIfInBounds_toArray, List.set_cons_zero, List.set_cons_succ]
  refine wpAnyH_take (i := 3) (oi := _) (v := .map (some mr)) rfl (by kernel_rfl) (by kernel_rfl) (by kernel_rfl) (fun _ _ _ h => h) (Or.inl ⟨by rfl, ?_⟩) (by assumption) ?_
  · intro W hSw
    try dsimp only at hSw
    go_simp
  try simp only [Act.put, List.getElem_toArray, List.getElem_cons_succ, List.getElem_cons_zero, List.setIfInBounds_toArray, List.set_cons_zero, List.set_cons_succ]
  refine wpAnyH_take (i := 4) (oi := _) (v := .agg #[.int .u16 0, .int .u32 1]) rfl (by kernel_rfl) (by kernel_rfl) (by kernel_rfl) (fun _ _ _ h => h) (Or.inl ⟨by rfl, ?_⟩) (by assumption) ?_
  · intro W hSw
    try dsimp only at hSw
    go_simp
  try simp only [Act.put, List.getElem_toArray, List.getElem_cons_succ, List.getElem_cons_zero, List.setIfInBounds_toArray, List.set_cons_zero, List.set_cons_succ]
  refine wpAnyH_take (i := 5) (oi := _) (v := .pointer (some ⟨xb, 0, none⟩)) rfl (by kernel_rfl) (by kernel_rfl) (by kernel_rfl) (fun _ _ _ h => h) (Or.inl ⟨by rfl, ?_⟩) (by assumption) ?_
  · intro W hSw
    try dsimp only at hSw
    go_simp
  try simp only [Act.put, List.getElem_toArray, List.getElem_cons_succ, List.getElem_cons_zero, List.setIfInBounds_toArray, List.set_cons_zero, List.set_cons_succ]
  refine wpAnyH_ready (rs := [6]) (by kernel_rfl) (by simp) ?_
  refine AllReadyH.cons (o := _) rfl (fun K hK => ?_) AllReadyH.nil
  go_simp
  refine hK.out _ _ (SB.out) (fun hHeld => ?_)
  clear hK K
  try simp only [Act.put, List.getElem_toArray, List.getElem_cons_succ, List.getElem_cons_zero, List.setIfInBounds_toArray, List.set_cons_zero, List.set_cons_succ]
  refine wpAnyH_done (by kernel_rfl) ?_ _
  clear hrun2
  have SC : Hid (∀ u : Value, (w3.drew.setCell ⟨wd, 5, none⟩ u).cell? ⟨w.heap.size, 0, none⟩ = some (.int .u16 0) ∧ (w3.drew.setCell ⟨wd, 5, none⟩ u).cell? ⟨w.heap.size, 1, none⟩ = some (.int .u32 1)) := hid fun u => by
    have h := (HP3.out.ext (Below.refl _ _).drew).mut (mut1 (w := w3.drew) (s := wd) (i := 5) (v := u)) (fun e => by have := HZ.out; omega)
    exact ⟨h.cell (j := 0) rfl, h.cell (j := 1) rfl⟩
  have SD : Hid (w3.drew.cell? ⟨w.heap.size, 0, none⟩ = some (.int .u16 0) ∧ w3.drew.cell? ⟨w.heap.size, 1, none⟩ = some (.int .u32 1)) := hid ⟨(HP3.out.ext (Below.refl _ _).drew).cell (j := 0) rfl, (HP3.out.ext (Below.refl _ _).drew).cell (j := 1) rfl⟩
  have d5 : w3.drew.cell? ⟨wd, 5, none⟩ = some (.int .u32 0) := (HD3.out.ext (Below.refl _ _).drew).cell (j := 5) rfl
  have fz : ∀ j, w3.drew.frozen? ⟨wd, j, none⟩ = false := (HD3.out.ext (Below.refl _ _).drew).frozen
  clear SA SB
  go_upto_region 3 with fail
  refine wp_region_held_drew (S := fun W => W.cell? ⟨w.heap.size, 0, none⟩ = some (.int .u16 0) ∧ W.cell? ⟨w.heap.size, 1, none⟩ = some (.int .u32 1)) (by kernel_rfl) (SD.out) (fun hHeld => ?_)
  refine wpAnyH_take (i := 0) (oi := _) (v := .pointer (some ⟨wd, 0, none⟩)) rfl (by kernel_rfl) (by kernel_rfl) (by kernel_rfl) (fun _ _ _ h => h) (Or.inl ⟨by rfl, ?_⟩) (by assumption) ?_
  · intro W hSw
    try dsimp only at hSw
    go_simp
  try simp only [Act.put, List.getElem_toArray, List.getElem_cons_succ, List.getElem_cons_zero, List.setIfInBounds_toArray, List.set_cons_zero, List.set_cons_succ]
  refine wpAnyH_take (i := 1) (oi := _) (v := .pointer (some ⟨w.heap.size, 0, none⟩)) rfl (by kernel_rfl) (by kernel_rfl) (by kernel_rfl) (fun _ _ _ h => h) (Or.inl ⟨by rfl, ?_⟩) (by assumption) ?_
  · intro W hSw
    try dsimp only at hSw
    go_simp
  try simp only [Act.put, List.getElem_toArray, List.getElem_cons_succ, List.getElem_cons_zero, List.setIfInBounds_toArray, List.set_cons_zero, List.set_cons_succ]
  refine wpAnyH_take (i := 2) (oi := _) (v := .int .u16 0) rfl (by kernel_rfl) (by kernel_rfl) (by kernel_rfl) (fun _ _ _ h => h) (Or.inl ⟨by rfl, ?_⟩) (by assumption) ?_
  · intro W hSw
    try dsimp only at hSw
    go_simp
  try simp only [Act.put, List.getElem_toArray, List.getElem_cons_succ, List.getElem_cons_zero, List.setIfInBounds_toArray, List.set_cons_zero, List.set_cons_succ]
  refine wpAnyH_take (i := 3) (oi := _) (v := .pointer (some ⟨w.heap.size, 1, none⟩)) rfl (by kernel_rfl) (by kernel_rfl) (by kernel_rfl) (fun _ _ _ h => h) (Or.inl ⟨by rfl, ?_⟩) (by assumption) ?_
  · intro W hSw
    try dsimp only at hSw
    go_simp
  try simp only [Act.put, List.getElem_toArray, List.getElem_cons_succ, List.getElem_cons_zero, List.setIfInBounds_toArray, List.set_cons_zero, List.set_cons_succ]
  refine wpAnyH_take (i := 4) (oi := _) (v := .int .u32 1) rfl (by kernel_rfl) (by kernel_rfl) (by kernel_rfl) (fun _ _ _ h => h) (Or.inl ⟨by rfl, ?_⟩) (by assumption) ?_
  · intro W hSw
    try dsimp only at hSw
    go_simp
  try simp only [Act.put, List.getElem_toArray, List.getElem_cons_succ, List.getElem_cons_zero, List.setIfInBounds_toArray, List.set_cons_zero, List.set_cons_succ]
  refine wpAnyH_take (i := 5) (oi := _) (v := .pointer (some ⟨wd, 0, none⟩)) rfl (by kernel_rfl) (by kernel_rfl) (by kernel_rfl) (fun _ _ _ h => h) (Or.inl ⟨by rfl, ?_⟩) (by assumption) ?_
  · intro W hSw
    try dsimp only at hSw
    go_simp
  try simp only [Act.put, List.getElem_toArray, List.getElem_cons_succ, List.getElem_cons_zero, List.setIfInBounds_toArray, List.set_cons_zero, List.set_cons_succ]
  refine wpAnyH_take (i := 6) (oi := _) (v := .pointer (some ⟨wd, 5, none⟩)) rfl (by kernel_rfl) (by kernel_rfl) (by kernel_rfl) (fun _ _ _ h => h) (Or.inl ⟨by rfl, ?_⟩) (by assumption) ?_
  · intro W hSw
    try dsimp only at hSw
    go_simp
  try simp only [Act.put, List.getElem_toArray, List.getElem_cons_succ, List.getElem_cons_zero, List.setIfInBounds_toArray, List.set_cons_zero, List.set_cons_succ]
  refine wpAnyH_ready (rs := [7]) (by kernel_rfl) (by simp) ?_
  refine AllReadyH.cons (o := _) rfl (fun K hK => ?_) AllReadyH.nil
  go_simp
  refine hK.out _ _ (SD.out) (fun hHeld => ?_)
  clear hK K
  try simp only [Act.put, List.getElem_toArray, List.getElem_cons_succ, List.getElem_cons_zero, List.setIfInBounds_toArray, List.set_cons_zero, List.set_cons_succ]
  refine wpAnyH_ready (rs := [8]) (by kernel_rfl) (by simp) ?_
  refine AllReadyH.cons (o := _) rfl (fun K hK => ?_) AllReadyH.nil
  go_simp
  refine hK.out _ _ (SC.out _) (fun hHeld => ?_)
  clear hK K
  try simp only [Act.put, List.getElem_toArray, List.getElem_cons_succ, List.getElem_cons_zero, List.setIfInBounds_toArray, List.set_cons_zero, List.set_cons_succ]
  refine wpAnyH_done (by kernel_rfl) ?_ _
  obtain ⟨w4, hw4⟩ : ∃ w4, (w3.setCell ⟨wd, 5, none⟩ (.int .u32 1)).drew = w4 := ⟨_, rfl⟩
  rw [hw4]
  have hm4 : Mut (fun k => k = wd) w3 w4 := by rw [← hw4]; exact mut1.trans (Mut.of_below (Below.refl _ _).drew)
  have HD4 : Hid (BoxL w4 wd 143 (worldC fl l m t mr 1 s1 s2 ls)) := hid (by rw [← hw4]; exact (HD3.out.set (j := 5) (v := .int .u32 1)).ext (Below.refl _ _).drew)
  have Hm24 : Hid (Mut (fun k => k = mr ∨ k = wd) W2.drew w4) := hid ((Hm3.out.mono fun k _ e => .inl e).trans (hm4.mono fun k _ e => .inr e))
  have HM4 : Hid (MapIs w4 mr pidV ptrV [((0, 1), xb)]) := hid (HM3.out.same (hm4.block _ HM3.out.lt HNE.out.2.2))
  clear SC SD d5 fz hm4 hw4 HD2 HP2 HP3 HD3 HM3 Hm3
  have hvg := fun g (e : v.ownBlock = some g) => (HOX.out.blk e)
  have HB4 := hid ((HBX.out.ext HB2.out).mut Hm24.out (fun e => e.elim HNE.out.2.1.symm HNE.out.1.symm))
  have HO4 := hid ((HOX.out.ext HB2.out).mut Hm24.out (fun g e1 e2 => by rcases e2 with e2 | e2; exact HVN.out.2.1 (by rw [e1, e2]); exact HVN.out.2.2 (by rw [e1, e2])))
  have HX4 := hid (HX2.out.mut Hm24.out (fun e => by have := HZ.out; omega))
  have HH4 := hid (hub0_mut (HHX.out.ext HB2.out) Hm24.out (fun e => e.elim HHR.out.2.2.1 HHR.out.2.2.2.1) (fun e => e.elim HHR.out.2.2.2.2.1 HHR.out.2.2.2.2.2))
  have hhl := HHX.out.lt
  have hrl := HHX.out.map.lt
  have CA := hid (after0_any (wd := wd) HX4.out HB4.out H8.out H47.out H48.out HO4.out HH4.out HVN.out.1 (fun e => by have := HZ.out; omega) HHR.out.1 HHR.out.2.1 (fun e => by have := HZ.out; omega) (fun e => by have := HZ.out; omega))
  clear hvg HX4 HO4 HH4 hhl hrl
  go_wp2_with fail
  refine CA.out.mono ?_
  rintro e w5 ⟨rfl, v8, hx5, ho5, hm5⟩
  have hD5 := HD4.out.mut hm5 (fun e => by have := HZ.out; rcases e with e | e; exact HNE.out.1 e; omega)
  have hM5 := HM4.out.same (hm5.block _ HM4.out.lt (fun e => by have := HZ.out; rcases e with e | e; exact HNE.out.2.1 e; omega))
  have hz4 : w.heap.size ≤ w4.heap.size := Nat.le_trans HB2.out.size Hm24.out.size
  have hm : Mut (fun k => k = nb ∨ k = mr ∨ k = wd) w w5 := ((Mut.of_below HB2.out).trans (Hm24.out.mono fun k _ e => .inr e)).transG hm5 (fun k hk e => by have := HZ.out; rcases e with e | e; exact .inl e; omega)
  go_wp2_with fail
  refine bodyPost_end (results_none rfl _ _ _) rfl ⟨rfl, xb, v8, by have := HZ.out; omega, hD5, hM5, hx5, ho5.mono hz4, hm⟩
set_option maxRecDepth 100000 in
set_option maxHeartbeats 3200000 in
theorem all_any {w : World} {wd fl mr : Nat} {l m t l0 ls : Int} {s1 s2 : Value} {L : List (Pid × Nat)} (hD : BoxL w wd 143 (worldC fl l m t mr l0 s1 s2 ls)) (hM : MapIs w mr pidV ptrV L) (hnd : (L.map (·.1)).Nodup) (hok : ∀ p ∈ L.map (·.1), ok p) (hl : L.length ≤ 1000) :
    Calls Tryz.prog 75 #[.pointer (some ⟨wd, 0, none⟩)] w fun e w' => ∃ v, e = .returned v ∧ OwnP w' w.heap.size v (sortL (L.map (·.1))) ∧ Below w.heap.size w w' := by
  have d4 := hD.cell (j := 4) rfl
  have HM := hid hM
  have HL := hid hl
  have hS : Hid (∀ xs : List Pid, xs.Perm (L.map (·.1)) → sortP xs = sortL (L.map (·.1)) ∧ xs.length ≤ 1000 ∧ ∀ p ∈ xs, ok p) := hid fun xs hp => by
    have hn : xs.Nodup := hp.symm.nodup hnd
    have ho : ∀ p ∈ xs, ok p := fun p hpx => hok p (hp.mem_iff.1 hpx)
    refine ⟨?_, by have := hp.length_eq; simp at this; omega, ho⟩
    rw [sortP_nodup hn]
    exact sortL_perm hp ho
  clear hD hM hnd hok hl
  go_enter Tryz.func75, Tryz.ntmps75
  go_wp2_with fail
  refine (keysOf_anyW mr w).mono ?_
  rintro e w1 ⟨rfl, hw1⟩
  have hb1 : Below w.heap.size w w1 := by rw [hw1]; exact (Below.refl _ _).alloc (Nat.le_refl _) _
  have hc1 : w1.cell? ⟨w.heap.size, 0, none⟩ = some (.map (some mr)) := by rw [hw1]; simp
  have hz1 : w.heap.size < w1.heap.size := by rw [hw1]; simp
  clear hw1 d4
  have HB1 := hid hb1
  have CC := hid (collect_anyW w.heap.size mr L w1 hz1 hc1 (HM.out.ext hb1) (by have := HL.out; omega))
  clear hc1 hb1
  go_wp2_with fail
  refine CC.out.mono ?_
  rintro e w2 ⟨v, xs, rfl, hown, hp, hb2⟩
  obtain ⟨a, c, rfl, hrow, -⟩ := hown.row
  obtain ⟨hs1, hs2, hs3⟩ := hS.out xs hp
  have CS := hid (sort_any a c xs w2 (by omega) hrow hs3)
  rw [hs1] at CS
  have HB2 := hid hb2
  clear hrow hown hp hs1 hs2 hs3 hb2 CC
  go_wp2_with fail
  refine CS.out.mono ?_
  rintro e w3 ⟨v3, rfl, hown3, hb3⟩
  go_wp2_with fail
  go_ret
  have hbw := HB1.out.trans (HB2.out.mono HB1.out.size)
  exact ⟨_, rfl, hown3.mono hbw.size, hbw.trans (hb3.mono hbw.size)⟩
end Go.Proofs.YtehagnbphamjhaaGreatDoor

namespace Go.Proofs.YtehagnbphamjhaaGreatDoor
open Go.RowKit
/-! ### a world: Lives of one who founded -/
theorem OwnK.empty (w : World) (base : Nat) (e : TypeId) (k : Nat) (hb : base ≤ w.heap.size) : OwnK (w.alloc (.cells #[] e)) base e k (.slice (some ⟨w.heap.size, 0, none⟩) 0 0) [] :=
  ⟨⟨by simp, .inr ⟨w.heap.size, 0, #[], rfl, hb, heap_alloc_new w _, Nat.le_refl _, by unfold maxLen; omega, by simp, by simp⟩⟩, fun x hx => (by cases hx)⟩
theorem infoLvI : (Tryz.prog.info? 49).map (fun i => (i.zero, i.size, i.bytes)) = some (some (.agg #[.int .u16 0, .int .u32 0, .slice none 0 0]), 3, 32) := by kernel_rfl
theorem zeroBeing (w : World) : (zeroValue 151).run Tryz.prog w = .ok (.pointer none) w := by kernel_rfl
set_option maxRecDepth 100000 in
set_option maxHeartbeats 3200000 in
theorem cloneEv_any {w : World} {base : Nat} {v : Value} {el : List Value} (hO : OwnK w base 57 9 v [el]) :
    Calls Tryz.prog 70 #[v] w fun e w' => ∃ v', e = .returned v' ∧ OwnK w' w.heap.size 57 9 v' [el] ∧ Below w.heap.size w w' := by
  obtain ⟨i0, hi, hz0, hz1, hz2⟩ := info_parts infoEvI
  obtain ⟨g, c, hv, hbg, hgl, hcell⟩ := hO.at (i := 0) rfl
  have hv : v = .slice (some ⟨g, 0, none⟩) 1 c := hv
  subst hv
  have HEL := hid (hO.el el (by simp))
  have hb1 : Below w.heap.size w (w.alloc (.cells #[] 57)) := (Below.refl _ _).alloc (Nat.le_refl _) _
  have HCE : Hid (∀ j u, el[j]? = some u → (w.alloc (.cells #[] 57)).cell? ⟨g, j, none⟩ = some u) := hid fun j u hj => (hb1.cell (p := ⟨g, j, none⟩) (by exact hgl)).trans (by simpa using hcell j u hj)
  have HB1 := hid hb1
  have hnil : ∀ W, (binOp .eql 47 (.slice (some ⟨g, 0, none⟩) 1 c) (.slice none 0 0)).run Tryz.prog W = .ok (.bool false) W := fun W => Lib.run_eql_slice_nil W 47 57 (some ⟨g, 0, none⟩) 1 c 0 0 Tryz.underlying47
  clear hO hcell hgl hbg hb1
  go_enter Tryz.func70, Tryz.ntmps70
  go_wp2_with (at_builtin; refine wpList_appendEP (el := el) (b := g) Tryz.underlying47 hi hz0 hz1 hz2 rfl (by decide) (by decide) (OwnK.empty w w.heap.size 57 9 (Nat.le_refl _)) HEL.out.1 HEL.out.2 HCE.out (by simp) HB1.out.size rfl rfl rfl rfl ?_; intro v6 w6 hown6 hm6 hn6)
  go_ret
  exact ⟨_, rfl, hown6, (Mut.of_below HB1.out).trans (F := fun k => w.heap.size ≤ k) (hm6.mono fun k _ e => by simp [Value.ownBlock] at e; omega) |>.below (Nat.le_refl _) fun k e => e⟩
theorem OwnK.cap1 {w : World} {base : Nat} {e : TypeId} {k g c : Nat} {xs : List (List Value)} (h : OwnK w base e k (.slice (some ⟨g, 0, none⟩) xs.length c) xs) : xs.length ≤ c := by
  rcases h.row.2 with ⟨h1, -⟩ | ⟨g', cap, cur, h1, -, -, h2, -⟩
  · cases h1
  · cases h1; exact h2
set_option maxRecDepth 100000 in
set_option maxHeartbeats 12800000 in
theorem lives1_any {w : World} {wd fl mr xb nb i base : Nat} {l m t l0 ls : Int} {s1 s2 : Value} {V : View} {A : VAd} {v8 : Value} (hD : BoxL w wd 143 (worldC fl l m t mr l0 s1 s2 ls)) (hM : MapIs w mr pidV ptrV [((0, 1), xb)]) (hX : BoxL w xb 150 (beingC nb 0 1 v8)) (hO : OwnK w base 57 9 v8 [[.int .i64 1, .int .u64 i, .slice A.am V.ms.length A.cm, .slice A.al V.ls.length A.cl, .slice A.ad V.ds.length A.cd, .int .u16 0, .int .u32 0, .int .u64 0, .slice none 0 0]]) (hV : ViewR w A.am A.al A.ad V) (hi : V.id = (i : Int)) (hwf : WfView V) :
    Calls Tryz.prog 47 #[.pointer (some ⟨wd, 0, none⟩)] w fun e w' => ∃ a c, e = .returned (.slice a 1 c) ∧ LvRow w' a [⟨(0, 1), [⟨1, V, (0, 0), 0, []⟩]⟩] ∧ Below w.heap.size w w' := by
  obtain ⟨i0, hi0, hz0, hz1, hz2⟩ := info_parts infoLvI
  obtain ⟨el, hel⟩ : ∃ el, [Value.int .i64 1, .int .u64 i, .slice A.am V.ms.length A.cm, .slice A.al V.ls.length A.cl, .slice A.ad V.ds.length A.cd, .int .u16 0, .int .u32 0, .int .u64 0, .slice none 0 0] = el := ⟨_, rfl⟩
  rw [hel] at hO
  have HEL := hid hel
  have HD := hid hD
  have HX := hid hX
  have HO := hid hO
  have HV := hid hV
  have HI := hid hi
  have HWF := hid hwf
  have HMP := hid hM
  obtain ⟨va, vn, vc, hv8⟩ := hO.lit
  have HV8 := hid hv8
  have CA := hid (all_any hD hM (by simp) (by intro p hp; simp at hp; subst hp; exact ⟨by decide, by decide, by decide⟩) (by simp))
  clear hD hM hX hO hV hi hwf hel
  subst hv8
  clear HV8
  go_enter Tryz.func47, Tryz.ntmps47
  go_wp2_with fail
  refine CA.out.mono ?_
  rintro e w1 ⟨v, rfl, hown, hb1⟩
  have e0 : sortL ([((0, 1), xb)].map (fun x : Pid × Nat => x.1)) = [(0, 1)] := List.perm_singleton.1 (sortL_perm_self _)
  rw [e0] at hown
  obtain ⟨a, c, rfl, hrow, -⟩ := hown.row
  have hro : ∃ g off, a = some ⟨g, off, none⟩ ∧ w1.cell? ⟨g, off, none⟩ = some (.int .u16 0) ∧ w1.cell? ⟨g, off + 1, none⟩ = some (.int .u32 1) := by
    rcases hrow with h | ⟨g, off, h1, h2, h3⟩
    · cases h
    · obtain ⟨h4, h5⟩ := h3 0 (by simp)
      exact ⟨g, off, h1, by simpa using h4, by simpa using h5⟩
  obtain ⟨g, off, rfl, r0, r1⟩ := hro
  have HB1 := hid hb1
  have hgl := World.block_lt_of_cell? _ _ r0
  clear hown hrow hb1 CA
  have HR := hid (And.intro r0 (And.intro r1 hgl))
  clear r0 r1 hgl
  go_wp2_with fail
  go_loopw [3, 11] (fun v i wr => (i = .int .i64 0 ∧ v = .slice none 0 0 ∧ wr = w1) ∨ (i = .int .i64 1 ∧ ∃ a c, v = .slice a 1 c ∧ Hid (LvRow wr a [⟨(0, 1), [⟨1, V, (0, 0), 0, []⟩]⟩]) ∧ Hid (Below w.heap.size w wr))) (fun _ i _ => 1 - (intOf i).toNat)
  case atStart => exact .inl ⟨rfl, rfl, rfl⟩
  case round =>
    rcases hrel with ⟨rfl, rfl, rfl⟩ | ⟨rfl, a2, c2, rfl, HLV, HBL⟩
    · have r0 := HR.out.1
      have r1 := HR.out.2.1
      obtain ⟨w2, hw2⟩ : ∃ w2, wr.alloc (.cells #[.int .u16 0, .int .u32 1] 46) = w2 := ⟨_, rfl⟩
      have hb2 : Below wr.heap.size wr w2 := by rw [← hw2]; exact (Below.refl _ _).alloc (Nat.le_refl _) _
      have hpb : BoxL w2 wr.heap.size 46 [.int .u16 0, .int .u32 1] := by rw [← hw2]; exact BoxL.made _ _ _
      have HB2 : Hid (Below w.heap.size w w2) := hid (HB1.out.trans (hb2.mono HB1.out.size))
      have HPB := hid hpb
      obtain ⟨pb, hpbe⟩ : ∃ z, wr.heap.size = z := ⟨_, rfl⟩
      have HPE := hid hpbe
      have HW2 := hid hw2
      clear hb2 hpb hpbe hw2
      go_upto_region 7 with fail
      try rw [HW2.out]
      rw [HPE.out] at HPB ⊢
      clear r0 r1
      have HS : Hid (∀ W, Below w2.heap.size w2 W → W.cell? ⟨pb, 0, none⟩ = some (.int .u16 0) ∧ W.cell? ⟨pb, 1, none⟩ = some (.int .u32 1) ∧ W.cell? ⟨wd, 4, none⟩ = some (.map (some mr)) ∧ (Instr.lookup 139 (.map (some mr)) (.agg #[.int .u16 0, .int .u32 1]) false).run Tryz.prog W = .ok (.pointer (some ⟨xb, 0, none⟩)) W ∧ W.cell? ⟨xb, 4, none⟩ = some (.slice va vn vc)) := hid fun W hb => by
        have hbw : Below w.heap.size w W := HB2.out.trans (hb.mono HB2.out.size)
        have hp := HPB.out.ext hb
        have hl := (HMP.out.ext hbw).lookup_no keyPid Tryz.underlying139 (zeroBeing W) (0, 1)
        exact ⟨hp.cell (j := 0) rfl, hp.cell (j := 1) rfl, (HD.out.ext hbw).cell (j := 4) rfl, hl, (HX.out.ext hbw).cell (j := 4) rfl⟩
      have CC : Hid (∀ W, Below w2.heap.size w2 W → Calls Tryz.prog 70 #[.slice va vn vc] W fun e w' => ∃ v', e = .returned v' ∧ OwnK w' w2.heap.size 57 9 v' [el] ∧ Below w2.heap.size w2 w') := hid fun W hb => (cloneEv_any ((HO.out.ext HB2.out).ext hb)).mono fun e w' ⟨v', h1, h2, h3⟩ => ⟨v', h1, h2.mono hb.size, hb.trans (h3.mono hb.size)⟩
      have H2 : Below w2.heap.size w2 w2.drew := (Below.refl _ _).drew
      refine wp_region_held_drew (S := fun W => W.cell? ⟨pb, 0, none⟩ = some (.int .u16 0) ∧ W.cell? ⟨pb, 1, none⟩ = some (.int .u32 1) ∧ W.cell? ⟨wd, 4, none⟩ = some (.map (some mr)) ∧ (Instr.lookup 139 (.map (some mr)) (.agg #[.int .u16 0, .int .u32 1]) false).run Tryz.prog W = .ok (.pointer (some ⟨xb, 0, none⟩)) W ∧ W.cell? ⟨xb, 4, none⟩ = some (.slice va vn vc)) (by kernel_rfl) (HS.out _ H2) (fun hHeld => ?_)
      refine wpAnyH_take (i := 0) (oi := _) (v := .slice none 0 0) rfl (by kernel_rfl) (by kernel_rfl) (by kernel_rfl) (fun _ _ _ h => h) (Or.inl ⟨by rfl, ?_⟩) (by assumption) ?_
      · intro W hSw
        try dsimp only at hSw
        go_simp
      try simp only [Act.put, List.getElem_toArray, List.getElem_cons_succ, List.getElem_cons_zero, List.setIfInBounds_toArray, List.set_cons_zero, List.set_cons_succ]
      refine wpAnyH_take (i := 1) (oi := _) (v := .agg #[.int .u16 0, .int .u32 1]) rfl (by kernel_rfl) (by kernel_rfl) (by kernel_rfl) (fun _ _ _ h => h) (Or.inl ⟨by rfl, ?_⟩) (by assumption) ?_
      · intro W hSw
        try dsimp only at hSw
        go_simp
      try simp only [Act.put, List.getElem_toArray, List.getElem_cons_succ, List.getElem_cons_zero, List.setIfInBounds_toArray, List.set_cons_zero, List.set_cons_succ]
      refine wpAnyH_take (i := 2) (oi := _) (v := .pointer (some ⟨wd, 0, none⟩)) rfl (by kernel_rfl) (by kernel_rfl) (by kernel_rfl) (fun _ _ _ h => h) (Or.inl ⟨by rfl, ?_⟩) (by assumption) ?_
      · intro W hSw
        try dsimp only at hSw
        go_simp
      try simp only [Act.put, List.getElem_toArray, List.getElem_cons_succ, List.getElem_cons_zero, List.setIfInBounds_toArray, List.set_cons_zero, List.set_cons_succ]
      refine wpAnyH_take (i := 3) (oi := _) (v := .pointer (some ⟨wd, 0, none⟩)) rfl (by kernel_rfl) (by kernel_rfl) (by kernel_rfl) (fun _ _ _ h => h) (Or.inl ⟨by rfl, ?_⟩) (by assumption) ?_
      · intro W hSw
        try dsimp only at hSw
        go_simp
      try simp only [Act.put, List.getElem_toArray, List.getElem_cons_succ, List.getElem_cons_zero, List.setIfInBounds_toArray, List.set_cons_zero, List.set_cons_succ]
      refine wpAnyH_take (i := 4) (oi := _) (v := .pointer (some ⟨wd, 4, none⟩)) rfl (by kernel_rfl) (by kernel_rfl) (by kernel_rfl) (fun _ _ _ h => h) (Or.inl ⟨by rfl, ?_⟩) (by assumption) ?_
      · intro W hSw
        try dsimp only at hSw
        go_simp
      try simp only [Act.put, List.getElem_toArray, List.getElem_cons_succ, List.getElem_cons_zero, List.setIfInBounds_toArray, List.set_cons_zero, List.set_cons_succ]
      refine wpAnyH_take (i := 5) (oi := _) (v := .map (some mr)) rfl (by kernel_rfl) (by kernel_rfl) (by kernel_rfl) (fun _ _ _ h => h) (Or.inl ⟨by rfl, ?_⟩) (by assumption) ?_
      · intro W hSw
        try dsimp only at hSw
        go_simp
      try simp only [Act.put, List.getElem_toArray, List.getElem_cons_succ, List.getElem_cons_zero, List.setIfInBounds_toArray, List.set_cons_zero, List.set_cons_succ]
      refine wpAnyH_take (i := 6) (oi := _) (v := .agg #[.int .u16 0, .int .u32 1]) rfl (by kernel_rfl) (by kernel_rfl) (by kernel_rfl) (fun _ _ _ h => h) (Or.inl ⟨by rfl, ?_⟩) (by assumption) ?_
      · intro W hSw
        try dsimp only at hSw
        go_simp
      try simp only [Act.put, List.getElem_toArray, List.getElem_cons_succ, List.getElem_cons_zero, List.setIfInBounds_toArray, List.set_cons_zero, List.set_cons_succ]
      refine wpAnyH_take (i := 7) (oi := _) (v := .pointer (some ⟨xb, 0, none⟩)) rfl (by kernel_rfl) (by kernel_rfl) (by kernel_rfl) (fun _ _ _ h => h) (Or.inl ⟨by rfl, ?_⟩) (by assumption) ?_
      · intro W hSw
        try dsimp only at hSw
        go_simp
      try simp only [Act.put, List.getElem_toArray, List.getElem_cons_succ, List.getElem_cons_zero, List.setIfInBounds_toArray, List.set_cons_zero, List.set_cons_succ]
      refine wpAnyH_take (i := 8) (oi := _) (v := .pointer (some ⟨xb, 0, none⟩)) rfl (by kernel_rfl) (by kernel_rfl) (by kernel_rfl) (fun _ _ _ h => h) (Or.inl ⟨by rfl, ?_⟩) (by assumption) ?_
      · intro W hSw
        try dsimp only at hSw
        go_simp
      try simp only [Act.put, List.getElem_toArray, List.getElem_cons_succ, List.getElem_cons_zero, List.setIfInBounds_toArray, List.set_cons_zero, List.set_cons_succ]
      refine wpAnyH_take (i := 9) (oi := _) (v := .pointer (some ⟨xb, 4, none⟩)) rfl (by kernel_rfl) (by kernel_rfl) (by kernel_rfl) (fun _ _ _ h => h) (Or.inl ⟨by rfl, ?_⟩) (by assumption) ?_
      · intro W hSw
        try dsimp only at hSw
        go_simp
      try simp only [Act.put, List.getElem_toArray, List.getElem_cons_succ, List.getElem_cons_zero, List.setIfInBounds_toArray, List.set_cons_zero, List.set_cons_succ]
      refine wpAnyH_take (i := 10) (oi := _) (v := .slice va vn vc) rfl (by kernel_rfl) (by kernel_rfl) (by kernel_rfl) (fun _ _ _ h => h) (Or.inl ⟨by rfl, ?_⟩) (by assumption) ?_
      · intro W hSw
        try dsimp only at hSw
        go_simp
      try simp only [Act.put, List.getElem_toArray, List.getElem_cons_succ, List.getElem_cons_zero, List.setIfInBounds_toArray, List.set_cons_zero, List.set_cons_succ]
      refine wpAnyH_ready (rs := [11]) (by kernel_rfl) (by simp) ?_
      refine AllReadyH.cons (o := _) rfl (fun K hK => ?_) AllReadyH.nil
      go_simp
      (refine (CC.out _ H2).mono ?_)
      rintro e w3 ⟨v9, rfl, hown9, hb3⟩
      obtain ⟨ua, un, uc, hu⟩ := hown9.lit
      subst hu
      have HO9 := hid hown9
      refine hK.out _ _ (HS.out _ hb3) (fun hHeld => ?_)
      clear hK K
      try simp only [Act.put, List.getElem_toArray, List.getElem_cons_succ, List.getElem_cons_zero, List.setIfInBounds_toArray, List.set_cons_zero, List.set_cons_succ]
      refine wpAnyH_ready (rs := [12]) (by kernel_rfl) (by simp) ?_
      refine AllReadyH.cons (o := _) rfl (fun K hK => ?_) AllReadyH.nil
      go_simp
      refine hK.out _ _ (HS.out _ hb3) (fun hHeld => ?_)
      clear hK K
      try simp only [Act.put, List.getElem_toArray, List.getElem_cons_succ, List.getElem_cons_zero, List.setIfInBounds_toArray, List.set_cons_zero, List.set_cons_succ]
      refine wpAnyH_ready (rs := [13]) (by kernel_rfl) (by simp) ?_
      refine AllReadyH.cons (o := _) rfl (fun K hK => ?_) AllReadyH.nil
      go_simp
      obtain ⟨w4, hw4⟩ : ∃ w4, w3.alloc (.cells #[.int .u16 0, .int .u32 1, .slice ua un uc] 49) = w4 := ⟨_, rfl⟩
      rw [hw4]
      have hb34 : Below w3.heap.size w3 w4 := by rw [← hw4]; exact (Below.refl _ _).alloc (Nat.le_refl _) _
      have hb4 : Below w2.heap.size w2 w4 := hb3.trans (hb34.mono hb3.size)
      have HC4 : Hid (BoxL w4 w3.heap.size 49 [.int .u16 0, .int .u32 1, .slice ua un uc]) := hid (by rw [← hw4]; exact BoxL.made _ _ _)
      have HO4 := hid (HO9.out.ext hb34)
      clear hw4
      refine hK.out _ _ (HS.out _ hb4) (fun hHeld => ?_)
      clear hK K
      try simp only [Act.put, List.getElem_toArray, List.getElem_cons_succ, List.getElem_cons_zero, List.setIfInBounds_toArray, List.set_cons_zero, List.set_cons_succ]
      refine wpAnyH_ready (rs := [14]) (by kernel_rfl) (by simp) ?_
      refine AllReadyH.cons (o := _) rfl (fun K hK => ?_) AllReadyH.nil
      refine step_appendE (base := w2.heap.size) (b := w3.heap.size) (el := [.int .u16 0, .int .u32 1, .slice ua un uc]) (by rfl) Tryz.underlying22 hi0 hz0 hz1 hz2 rfl (by decide) (by decide) (OwnK.nil _ _ _ _) rfl (fun u hu => by simp at hu; rcases hu with rfl | rfl | rfl <;> rfl) (fun j u hj => HC4.out.cell hj) (by simp) hb4.size rfl rfl rfl ?_
      intro v8 w8 hown8 hm8 hn8
      have hb8 : Below w2.heap.size w2 w8 := hb4.trans (hm8.below hb4.size fun k e => by cases e)
      have HO8 := hid (HO4.out.mut hm8 (fun g _ e => by cases e))
      have HL8 := hid hown8
      refine hK.out _ _ (HS.out _ hb8) (fun hHeld => ?_)
      clear hK K
      try simp only [Act.put, List.getElem_toArray, List.getElem_cons_succ, List.getElem_cons_zero, List.setIfInBounds_toArray, List.set_cons_zero, List.set_cons_succ]
      refine wpAnyH_ready (rs := [15]) (by kernel_rfl) (by simp) ?_
      refine AllReadyH.cons (o := _) rfl (fun K hK => ?_) AllReadyH.nil
      go_simp
      refine hK.out _ _ (HS.out _ hb8) (fun hHeld => ?_)
      clear hK K
      try simp only [Act.put, List.getElem_toArray, List.getElem_cons_succ, List.getElem_cons_zero, List.setIfInBounds_toArray, List.set_cons_zero, List.set_cons_succ]
      refine wpAnyH_done (by kernel_rfl) ?_ _
      have hV8 : ViewR w8 A.am A.al A.ad V := HV.out.ext (HB2.out.trans (hb8.mono HB2.out.size))
      obtain ⟨g8, c8, e8, -, hgl8, hcell8⟩ := HL8.out.at (i := 0) rfl
      obtain ⟨g9, c9, e9, -, hgl9, hcell9⟩ := HO8.out.at (i := 0) rfl
      have e8 : v8 = .slice (some ⟨g8, 0, none⟩) 1 c8 := e8
      have e9 : Value.slice ua un uc = .slice (some ⟨g9, 0, none⟩) 1 c9 := e9
      cases e9
      have hcap : 1 ≤ uc := HO8.out.cap1 (xs := [el])
      have HLV : Hid (LvRow w8 (some ⟨g8, 0, none⟩) [⟨(0, 1), [⟨1, V, (0, 0), 0, []⟩]⟩]) := hid (.inr ⟨g8, 0, rfl, hgl8, fun i hi => by
        match i, hi with
        | 0, _ => exact ⟨some ⟨g9, 0, none⟩, uc, ⟨by simpa using hcell8 0 _ rfl, by simpa using hcell8 1 _ rfl, by simpa using hcell8 2 _ rfl⟩, hcap, ⟨by simp [okP], .inr ⟨g9, 0, rfl, hgl9, fun i hi => by
          match i, hi with
          | 0, _ => exact ⟨⟨A.am, A.al, A.ad, none, A.cm, A.cl, A.cd, 0⟩, fun j u hj => by
              have h := hcell9 j u (by rw [← HEL.out]; simpa [evC, HI.out] using hj)
              simpa using h, ⟨by simp, hV8, HWF.out, by simp [okP], by simp, .inl rfl, by simp⟩⟩⟩⟩⟩⟩)
      have HBL : Hid (Below w.heap.size w w8) := hid (HB2.out.trans (hb8.mono HB2.out.size))
      subst e8
      clear hown8 hm8 hn8 hV8 hcell8 hcell9 hown9 hb3 hb4 hb34 hb8
      go_wp2_with fail
      go_roundw
      case rel => exact .inr ⟨rfl, _, _, rfl, HLV, HBL⟩
      case measure => simp [intOf]
    · go_wp2_with fail
      go_ret
      exact ⟨_, _, rfl, HLV.out, HBL.out⟩
end Go.Proofs.YtehagnbphamjhaaGreatDoor

namespace Go.Proofs.YtehagnbphamjhaaGreatDoor
open Go.RowKit
/-! ### a world of one -/
def v1 : View := ⟨1, [(0, 1)], [[(0, 1)]], [(0, 1)]⟩
theorem first1 : firstV [(0, 1)] ⟨1, 2, 3⟩ = (v1, 0) := by kernel_rfl
theorem v1_fit : FitV v1 1 := ⟨rfl, by decide, by decide, by decide, by intro l hl; simp [v1] at hl; subst hl; decide⟩
theorem v1_wf : WfView v1 := by
  have hp : WfPids [((0 : Int), (1 : Int))] := by
    intro p hp
    simp at hp; subst hp
    exact ⟨by decide, by decide, by decide, by decide⟩
  exact ⟨by decide, hp, by intro l hl; simp [v1] at hl; subst hl; exact hp, hp⟩
theorem v1_small : Small v1 := ⟨v1_wf, by intro l hl; simp [v1] at hl; subst hl; decide, by decide, by decide, by decide⟩
structure OneW (w : World) (wd : Nat) : Prop where
  ex : ∃ (fl mr xb nb base : Nat) (A : VAd) (v8 : Value), BoxL w wd 143 (worldC fl 1 2 3 mr 1 (.slice none 0 0) (.slice none 0 0) 0) ∧ MapIs w mr pidV ptrV [((0, 1), xb)] ∧ BoxL w xb 150 (beingC nb 0 1 v8) ∧ OwnK w base 57 9 v8 [[.int .i64 1, .int .u64 (1 : Nat), .slice A.am v1.ms.length A.cm, .slice A.al v1.ls.length A.cl, .slice A.ad v1.ds.length A.cd, .int .u16 0, .int .u32 0, .int .u64 0, .slice none 0 0]] ∧ ViewR w A.am A.al A.ad v1
theorem OneW.ext {w w' : World} {wd : Nat} (h : OneW w wd) (hb : Below w.heap.size w w') : OneW w' wd := by
  obtain ⟨fl, mr, xb, nb, base, A, v8, h1, h2, h3, h4, h5⟩ := h.ex
  exact ⟨fl, mr, xb, nb, base, A, v8, h1.ext hb, h2.ext hb, h3.ext hb, h4.ext hb, h5.ext hb⟩
theorem oneW_made {w0 w w' : World} {wd fl mr nb h r : Nat} {a : Option Addr} (hF : Founded w w' v1 1 0 1 nb h r) (hD : BoxL w wd 143 (worldC fl 1 2 3 mr 0 (.slice none 0 0) (.slice none 0 0) 0)) (hM : MapIs w mr pidV ptrV []) (hmw : mr ≠ wd) :
    Calls Tryz.prog 73 #[.pointer (some ⟨wd, 0, none⟩), .agg #[.int .u16 0, .int .u32 1], .pointer (some ⟨nb, 0, none⟩)] w' fun e w2 => e = .returned (.tuple #[]) ∧ OneW w2 wd ∧ Mut (fun k => k = nb ∨ k = mr ∨ k = wd) w' w2 := by
  obtain ⟨cs, v, A, h1, h2, h3, h4, h5, h6, B, hB, hst, hwB⟩ := hF.box
  have hz := hF.below.size
  obtain ⟨g1, g2, g3, g4, g5⟩ := hF.ge
  have hwl := hD.lt
  have hml := hM.lt
  have hvb := fun k (e : v.ownBlock = some k) => (h5.blk e).1
  have hnl := h1.lt
  refine (add0_any (hD.ext hF.below) (hM.ext hF.below) h1 h2 h3 h4 h5 hF.hub h6 g4.symm g5.symm (fun e => by omega) (fun e => by omega) hmw ⟨fun e => by have := hvb _ e; omega, fun e => by have := hvb _ e; omega⟩ ⟨fun e => by omega, fun e => by omega, fun e => by omega, fun e => by omega⟩).mono ?_
  rintro e w2 ⟨rfl, xb, v8, k1, k2, k3, k4, k5, k6⟩
  exact ⟨rfl, ⟨fl, mr, xb, nb, _, A, v8, k2, k3, k4, k5, hst _ (fun k e => by rcases e with e | e | e <;> omega) _ k6⟩, k6⟩
set_option maxRecDepth 100000 in
set_option maxHeartbeats 12800000 in
theorem new1_any (w : World) :
    Calls Tryz.prog 45 #[.int .i64 1, .agg #[.int .i64 1, .int .i64 2, .int .i64 3]] w fun e w' => ∃ wd, e = .returned (.pointer (some ⟨wd, 0, none⟩)) ∧ OneW w' wd ∧ Below w.heap.size w w' := by
  have hmm := @run_makeMap Tryz.prog
  obtain ⟨W1, hW1⟩ : ∃ W1, w.alloc (.cells #[.int .i64 1, .int .i64 2, .int .i64 3] 60) = W1 := ⟨_, rfl⟩
  have hb1 : Below w.heap.size w W1 := by rw [← hW1]; exact (Below.refl _ _).alloc (Nat.le_refl _) _
  have hbb : BoxL W1 w.heap.size 60 [.int .i64 1, .int .i64 2, .int .i64 3] := by rw [← hW1]; exact BoxL.made _ _ _
  have HB1 := hid hb1
  have HBB := hid hbb
  have HS : Hid (∀ W, Below W1.heap.size W1 W → Below W1.heap.size W1 W ∧ W.cell? ⟨w.heap.size, 0, none⟩ = some (.int .i64 1) ∧ W.cell? ⟨w.heap.size, 1, none⟩ = some (.int .i64 2) ∧ W.cell? ⟨w.heap.size, 2, none⟩ = some (.int .i64 3)) := hid fun W hb => ⟨hb, cell_toB (hbb.cell (j := 0) rfl) hb, cell_toB (hbb.cell (j := 1) rfl) hb, cell_toB (hbb.cell (j := 2) rfl) hb⟩
  have CF : Hid (∀ W, Below W1.heap.size W1 W → Calls Tryz.prog 71 #[] W fun e w' => ∃ b, e = .returned (.pointer (some ⟨b, 0, none⟩)) ∧ Below W1.heap.size W1 w' ∧ Hid (Below W.heap.size W w')) := hid fun W hb => (flightNew_any W).mono fun e w' ⟨h1, h2⟩ => ⟨_, h1, by rw [h2]; exact below_allocS hb _, hid (by rw [h2]; exact (Below.refl _ _).alloc (Nat.le_refl _) _)⟩
  have H0 : Below W1.heap.size W1 W1.drew := (Below.refl _ _).drew
  clear hb1 hbb
  go_enter Tryz.func45, Tryz.ntmps45
  go_upto_region 3 with fail
  try rw [hW1]
  clear hW1
  go_cut [5] (fun v wx => ∃ wd fl mr, v = .pointer (some ⟨wd, 0, none⟩) ∧ Hid (BoxL wx wd 143 (worldC fl 1 2 3 mr 0 (.slice none 0 0) (.slice none 0 0) 0)) ∧ Hid (MapIs wx mr pidV ptrV ([] : List (Pid × Nat))) ∧ Hid (Below W1.heap.size W1 wx) ∧ Hid (mr ≠ wd ∧ W1.heap.size ≤ mr ∧ W1.heap.size ≤ wd))
  case first =>
    go_region_held3 (fun W => Below W1.heap.size W1 W ∧ W.cell? ⟨w.heap.size, 0, none⟩ = some (.int .i64 1) ∧ W.cell? ⟨w.heap.size, 1, none⟩ = some (.int .i64 2) ∧ W.cell? ⟨w.heap.size, 2, none⟩ = some (.int .i64 3)) (exact HS.out _ (by repeat (first | assumption | exact H0 | exact Below.refl _ _ | refine below_allocS ?_ _ | refine Below.drew ?_))) (first
      | (go_at_call 71; refine (CF.out _ (by repeat (first | assumption | exact H0 | exact Below.refl _ _ | refine below_allocS ?_ _ | refine Below.drew ?_))).mono ?_; rintro e w6 ⟨fb, rfl, hb6, hq6⟩))
    all_goals (
      go_wp2_with fail
      go_meet
      have hz6 := hq6.out.size
      simp only [World.size_alloc, World.size_drew] at hz6
      first
        | exact ⟨_, _, _, rfl, hid (BoxL.madeN _ _ _ (by simp)), hid ((MapIs.made w6).alloc _), hid (below_allocS (below_allocS hb6 _) _), hid ⟨by omega, hb6.size, Nat.le_trans hb6.size (by simp)⟩⟩
        | exact ⟨_, _, _, rfl, hid (BoxL.made _ _ _), hid ((((MapIs.made W1).ext (Below.refl _ _).drew).ext hq6.out).alloc _), hid (below_allocS hb6 _), hid ⟨by omega, Nat.le_refl _, hb6.size⟩⟩
        | exact ⟨_, _, _, rfl, hid (BoxL.made _ _ _), hid (((MapIs.made' W1.drew rfl).ext hq6.out).alloc _), hid (below_allocS hb6 _), hid ⟨by omega, Nat.le_refl _, hb6.size⟩⟩)
  case rest =>
    obtain ⟨wd, fl, mr, rfl, HD, HM, HB3, HN⟩ := hcut
    rename World => w3
    clear HS CF H0
    go_wp2_with fail
    go_loopw [6, 23] (fun v i wr => (i = .int .i64 0 ∧ v = .slice none 0 0 ∧ wr = w3) ∨ (i = .int .i64 1 ∧ ∃ a c, v = .slice a 1 c ∧ Hid (PidRow wr a [(0, 1)]) ∧ Hid (Below w3.heap.size w3 wr))) (fun _ i _ => 1 - (intOf i).toNat)
    case atStart => exact .inl ⟨rfl, rfl, rfl⟩
    case round =>
      rcases hrel with ⟨rfl, rfl, rfl⟩ | ⟨rfl, a, c, rfl, HR, HB4⟩
      · go_wp2_with (at_builtin; refine wpList_appendP (base := wr.heap.size) (OwnP.nil _ _) (PidRow.one wr 0 1) (by simp) (by simp) rfl rfl rfl rfl ?_; intro v4 w4 hown4 hg4 hnil4)
        obtain ⟨a4, c4, rfl, hr4, -⟩ := hown4.row
        have hb4 : Below wr.heap.size wr w4 := ((Below.refl _ _).alloc (Nat.le_refl _) _).grown hg4 (by simp) (fun g hg => by cases hg)
        go_roundw
        case rel => exact .inr ⟨rfl, a4, c4, rfl, hid hr4, hid hb4⟩
        case measure => simp [intOf]
      · go_wp2_with fail
        go_loopw [35] (fun i wx => (i = .int .i64 0 ∧ wx = wr) ∨ (i = .int .i64 1 ∧ Hid (OneW wx wd) ∧ Hid (Below w.heap.size w wx))) (fun i _ => 1 - (intOf i).toNat)
        case atStart => exact .inl ⟨rfl, rfl⟩
        case round =>
          rcases hrel with ⟨rfl, rfl⟩ | ⟨rfl, HO, HB⟩
          · rename World => wy
            have hro : ∃ g off, a = some ⟨g, off, none⟩ ∧ wy.cell? ⟨g, off, none⟩ = some (.int .u16 0) ∧ wy.cell? ⟨g, off + 1, none⟩ = some (.int .u32 1) := by
              rcases HR.out with h | ⟨g, off, h1, h2, h3⟩
              · cases h
              · obtain ⟨h4, h5⟩ := h3 0 (by simp)
                exact ⟨g, off, h1, by simpa using h4, by simpa using h5⟩
            obtain ⟨g, off, rfl, r0, r1⟩ := hro
            obtain ⟨w5, hw5⟩ : ∃ w5, wy.alloc (.cells #[.int .u16 0, .int .u32 1] 46) = w5 := ⟨_, rfl⟩
            have hb5 : Below wy.heap.size wy w5 := by rw [← hw5]; exact (Below.refl _ _).alloc (Nat.le_refl _) _
            have hpb : BoxL w5 wy.heap.size 46 [.int .u16 0, .int .u32 1] := by rw [← hw5]; exact BoxL.made _ _ _
            have HW5 := hid hw5
            obtain ⟨pb, hpbe⟩ : ∃ z, wy.heap.size = z := ⟨_, rfl⟩
            have HPE := hid hpbe
            rw [hpbe] at hpb
            have HB35 : Hid (Below w3.heap.size w3 w5) := hid (HB4.out.trans (hb5.mono HB4.out.size))
            have HR5 := hid (HR.out.ext hb5)
            have HPB := hid hpb
            have HB15 : Hid (Below W1.heap.size W1 w5) := hid (HB3.out.trans (HB35.out.mono HB3.out.size))
            clear hb5 hpb hw5 hpbe
            go_upto_region 13 with fail
            try rw [HW5.out]
            rw [HPE.out]
            clear r0 r1
            have p0 := HPB.out.cell (j := 0) rfl
            have p1 := HPB.out.cell (j := 1) rfl
            have b0 := (HBB.out.ext HB15.out).cell (j := 0) rfl
            have b1 := (HBB.out.ext HB15.out).cell (j := 1) rfl
            have b2 := (HBB.out.ext HB15.out).cell (j := 2) rfl
            have CFD := hid (found_any (c := c) (n := 1) (hid first1) (hid rfl) (by decide) HR5.out (by intro p hp; simp at hp; subst hp; exact ⟨by decide, by decide, by decide⟩) ⟨by decide, by decide⟩ v1_fit v1_small (x := 0) (y := 1) (by decide))
            go_wp2_with fail
            refine CFD.out.mono ?_
            rintro e w6 ⟨nb, h, r, rfl, hF⟩
            have HF := hid hF
            have q0 := (HPB.out.ext hF.below).cell (j := 0) rfl
            have q1 := (HPB.out.ext hF.below).cell (j := 1) rfl
            have CAD := hid (oneW_made (w0 := w5) (a := none) hF (HD.out.ext HB35.out) (HM.out.ext HB35.out) HN.out.1)
            clear hF CFD p0 p1 b0 b1 b2
            go_wp2_with fail
            refine CAD.out.mono ?_
            rintro e w7 ⟨rfl, hO7, hm7⟩
            have HO7 := hid hO7
            have HB7 : Hid (Below w.heap.size w w7) := hid (by
              have h1 : Below w.heap.size w w6 := HB1.out.trans ((HB15.out.trans (HF.out.below.mono HB15.out.size)).mono HB1.out.size)
              have h2 := HF.out.ge.1
              have h3 := HB15.out.size
              have h4 := HB1.out.size
              have h5 := HN.out.2
              exact below_mutN h1 hm7 (fun k e => by rcases e with e | e | e <;> omega))
            clear hO7 hm7 CAD q0 q1
            go_wp2_with fail
            go_roundw
            case rel => exact .inr ⟨rfl, HO7, HB7⟩
            case measure => simp [intOf]
          · go_wp2_with fail
            go_ret
            exact ⟨wd, rfl, HO.out, HB.out⟩
end Go.Proofs.YtehagnbphamjhaaGreatDoor

namespace Go.Proofs.YtehagnbphamjhaaGreatDoor
open Go.RowKit
/-! ### play: Report -/
def lifeP (x : LvX) : Str := printP x.p ++ [58] ++ (x.l.map eventP).flatten ++ [10]
def reportP (l : List LvX) : Str := (l.map lifeP).flatten
theorem okeptP {b g : Nat} {cs : Array Value} {w w' : World} {t : TypeId} {fr : Nat × Nat} (h : Lib.OthersKept 5 (some b) w w') (hg : w.heap[g]? = some (.cells cs t fr)) (hb : g ≠ b) (ht : t ≠ 5) : w'.heap[g]? = some (.cells cs t fr) :=
  h g _ hg (by intro e; exact hb (Option.some.inj e)) (by intro c fz e; cases e; exact ht rfl)
theorem printP_len2 {p : Pid} (h : okP p) : (printP p).length ≤ 41 := by
  obtain ⟨h1, h2, h3, h4⟩ := h
  have g1 := dec_len p.1.toNat 19 (by omega)
  have g2 := dec_len p.2.toNat 19 (by omega)
  unfold printP
  simp; omega
/-- how much is looked at -/
structure Few (l : List LvX) : Prop where
  n : l.length ≤ 12
  e : ∀ x ∈ l, x.l.length ≤ 60
set_option maxRecDepth 100000 in
set_option maxHeartbeats 12800000 in
theorem report_any {l : List LvX} {a : Option Addr} {c n : Nat} {w : World} (hrow : LvRow w a l) (hn : Hid (l.length = n)) (hfew : Few l) (ht : TabOk w) :
    Calls Tryz.prog 10 #[.slice a n c] w fun e w' => e = .returned (.string ⟨(reportP l).toArray⟩) ∧ Below w.heap.size w w' := by
  obtain ⟨r, hr⟩ : ∃ r, reportP l = r := ⟨_, rfl⟩
  rw [hr]
  have HR := hid hr
  clear hr
  obtain ⟨W1, hW1⟩ : ∃ W1, w.alloc (.cells #[.pointer none, .slice none 0 0] 65) = W1 := ⟨_, rfl⟩
  have hb1 : Below w.heap.size w W1 := by rw [← hW1]; exact (Below.refl _ _).alloc (Nat.le_refl _) _
  have HL1 : Hid (Bld w.heap.size w.heap.size [] W1) := hid (by rw [← hW1]; exact Bld.fresh w)
  have HB1 := hid hb1
  have HRW := hid hrow
  have HT := hid ht
  have HF := hid hfew
  have HNB : Hid (n ≤ 12) := hid (by have := hfew.n; rw [hn.out] at this; exact this)
  clear hrow ht hb1 hfew
  go_enter Tryz.func10, Tryz.ntmps10
  go_wp2_with fail
  go_loopw [10] (fun iv wr => ∃ (k : Nat) (out : Str), iv = .int .i64 k ∧ k ≤ n ∧ Hid (out.length ≤ 5000 * k) ∧ Hid (r = out ++ reportP (l.drop k)) ∧ Hid (Bld w.heap.size w.heap.size out wr) ∧ Hid (Below w.heap.size w wr ∧ w.heap.size < wr.heap.size)) (fun iv _ => n - (intOf iv).toNat)
  case atStart => exact ⟨0, [], rfl, Nat.zero_le _, hid (by simp), hid (by rw [← HR.out]; rfl), by first | exact HL1 | (rw [hW1]; exact HL1), by first | exact hid ⟨HB1.out, by rw [← hW1]; simp⟩ | (rw [hW1]; exact hid ⟨HB1.out, by rw [← hW1]; simp⟩)⟩
  case round =>
    obtain ⟨k, out, rfl, hk, hol, hf, hbl, hbw⟩ := hrel
    have hn12 := HNB.out
    by_cases hlt : k < n
    · have hkl : k < l.length := by rw [hn.out]; exact hlt
      obtain ⟨b, off, ai, ci, rfl, hblt, q0, q1, q2, -, hlv⟩ := HRW.out.at hkl
      obtain ⟨x, hx⟩ : ∃ x, l[k] = x := ⟨_, rfl⟩
      rw [hx] at q0 q1 q2 hlv
      have hdr : l.drop k = x :: l.drop (k + 1) := by rw [List.drop_eq_getElem_cons hkl, hx]
      have he60 := HF.out.e x (hx ▸ List.getElem_mem hkl)
      obtain ⟨⟨p1, p2⟩, evs⟩ := x
      obtain ⟨hp, hev⟩ := hlv
      simp only at q0 q1 q2 hp hev he60
      have q0 := cell_toB q0 hbw.out.1
      have q1 := cell_toB q1 hbw.out.1
      have q2 := cell_toB q2 hbw.out.1
      obtain ⟨m, hm⟩ : ∃ m, evs.length = m := ⟨_, rfl⟩
      rw [hm] at q2 he60
      have HM := hid hm
      have hpl := printP_len2 hp
      obtain ⟨hp1, hp2, hp3, hp4⟩ := hp
      obtain ⟨x1, rfl⟩ : ∃ i : Nat, p1 = (i : Int) := ⟨p1.toNat, by simp only at hp1; omega⟩
      obtain ⟨x2, rfl⟩ : ∃ i : Nat, p2 = (i : Int) := ⟨p2.toNat, by simp only at hp3; omega⟩
      simp only at hp2 hp4
      obtain ⟨W4, hW4⟩ : ∃ W4, wr.alloc (.cells #[.int .u16 x1, .int .u32 x2, .slice ai m ci] 49) = W4 := ⟨_, rfl⟩
      have hb4 : Below wr.heap.size wr W4 := by rw [← hW4]; exact (Below.refl _ _).alloc (Nat.le_refl _) _
      have hh4 : W4.heap[wr.heap.size]? = some (.cells #[.int .u16 x1, .int .u32 x2, .slice ai m ci] 49 (0, 0)) := by rw [← hW4]; exact heap_alloc_new wr _
      have y0 : W4.cell? ⟨wr.heap.size, 0, none⟩ = some (.int .u16 x1) := by rw [Lib.cell_of_heap hh4]; rfl
      have y1 : W4.cell? ⟨wr.heap.size, 1, none⟩ = some (.int .u32 x2) := by rw [Lib.cell_of_heap hh4]; rfl
      have HB4 := hid (hbw.out.1.trans (hb4.mono hbw.out.1.size))
      have HL4 := hid (hbl.out.extP hb4)
      have HH4 := hid hh4
      have HEV := hid hev
      have HNE : Hid (wr.heap.size ≠ w.heap.size) := hid (by have := hbw.out.2; omega)
      obtain ⟨gb, hgb⟩ : ∃ gb, wr.heap.size = gb := ⟨_, rfl⟩
      obtain ⟨PP, hPP⟩ : ∃ PP, printP ((x1 : Int), (x2 : Int)) = PP := ⟨_, rfl⟩
      have C1 := hid (print_any (x := x1) (y := x2) (by omega) (by omega) W4 (HT.out.ext HB4.out))
      rw [hPP] at C1 hpl
      have a1 := run_cat PP [58] (by omega) (by simp)
      have HF2 : Hid (r = out ++ (PP ++ [58]) ++ (evs.map eventP).flatten ++ [10] ++ reportP (l.drop (k + 1))) := hid (by rw [hf.out, hdr]; unfold reportP lifeP; simp [hPP])
      obtain ⟨T1, hT1⟩ : ∃ T, PP ++ [58] = T := ⟨_, rfl⟩
      rw [hT1] at a1 HF2
      have HTL : Hid (T1.length ≤ 42) := hid (by rw [← hT1]; simp; omega)
      clear hT1 hPP hpl hdr hx hkl hblt hb4 hh4 hev hm hp1 hp2 hp3 hp4 hf hbl
      go_upto_region 5 with fail
      clear hW4 q0 q1 q2
      rw [hgb] at HH4 HNE y0 y1
      clear hgb
      go_wp2_with fail
      refine C1.out.mono ?_
      rintro e w5 ⟨rfl, hb5⟩
      have HB5 := hid (HB4.out.trans (hb5.mono HB4.out.size))
      have HL5 := hid (HL4.out.extP hb5)
      have HH5 : Hid (w5.heap[gb]? = some (.cells #[.int .u16 x1, .int .u32 x2, .slice ai m ci] 49 (0, 0))) := hid ((hb5.block gb (Array.getElem?_eq_some_iff.1 HH4.out).1).trans HH4.out)
      clear hb5 C1 y0 y1 HB4 HL4 HH4
      have C2 := hid (bws_any w.heap.size w.heap.size out T1 w5 HL5.out (by have := hol.out; have := HTL.out; have := HNB.out; omega) HB5.out.size)
      obtain ⟨tl, htl⟩ : ∃ tl, T1.length = tl := ⟨_, rfl⟩
      rw [htl] at C2
      have HTL2 := hid htl
      clear htl
      go_wp2_with fail
      refine C2.out.mono ?_
      rintro e w6 ⟨rfl, hbl6, hb6, hk6⟩
      have HB6 := hid (HB5.out.trans hb6)
      have hh6 := okeptP hk6 HH5.out HNE.out (by decide)
      have y2 : w6.cell? ⟨gb, 2, none⟩ = some (.slice ai m ci) := by rw [Lib.cell_of_heap hh6]; rfl
      have HL6 : Hid (Bld w.heap.size w.heap.size (out ++ T1) w6) := hid (.inr hbl6)
      clear hbl6 hb6 hk6 hh6 C2 HH5 HL5 HB5 a1
      go_wp2_with fail
      clear y2
      go_loopw [22] (fun iv wr => ∃ (j : Nat) (out2 : Str), iv = .int .i64 j ∧ j ≤ m ∧ Hid (out2.length ≤ 5000 * k + 42 + 80 * j) ∧ Hid (r = out2 ++ ((evs.drop j).map eventP).flatten ++ [10] ++ reportP (l.drop (k + 1))) ∧ Hid (Bld w.heap.size w.heap.size out2 wr) ∧ Hid (Below w.heap.size w wr ∧ w.heap.size < wr.heap.size)) (fun iv _ => m - (intOf iv).toNat)
      case atStart => exact ⟨0, out ++ T1, rfl, Nat.zero_le _, hid (by have := hol.out; have := HTL.out; simp; omega), hid (by rw [HF2.out, List.drop_zero]), HL6, hid ⟨HB6.out, by have := HL6.out; rcases this with h | h <;> exact (Array.getElem?_eq_some_iff.1 h.2.choose_spec.1).1⟩⟩
      case round =>
        obtain ⟨j, out2, rfl, hj, hol2, hf2, hbl2, hbw2⟩ := hrel
        by_cases hjm : j < m
        · have hjl : j < evs.length := by rw [HM.out]; exact hjm
          obtain ⟨eb, eo, A, rfl, -, hcell, her⟩ := (HEV.out.ext hbw2.out.1).at hjl
          obtain ⟨ev, hev⟩ : ∃ ev, evs[j] = ev := ⟨_, rfl⟩
          rw [hev] at hcell her
          have hed : evs.drop j = ev :: evs.drop (j + 1) := by rw [List.drop_eq_getElem_cons hjl, hev]
          have hlen := eventP_len her
          obtain ⟨W7, hW7⟩ : ∃ W7, wr.alloc (.cells (evC ev A).toArray 57) = W7 := ⟨_, rfl⟩
          have hb7 : Below wr.heap.size wr W7 := by rw [← hW7]; exact (Below.refl _ _).alloc (Nat.le_refl _) _
          have HB7 := hid (hbw2.out.1.trans (hb7.mono hbw2.out.1.size))
          have HL7 := hid (hbl2.out.extP hb7)
          have C3 := hid (event_any (her.ext hb7) (HT.out.ext HB7.out))
          obtain ⟨E, hE⟩ : ∃ E, eventP ev = E := ⟨_, rfl⟩
          rw [hE] at C3 hlen
          have HF3 : Hid (r = (out2 ++ E) ++ ((evs.drop (j + 1)).map eventP).flatten ++ [10] ++ reportP (l.drop (k + 1))) := hid (by rw [hf2.out, hed]; simp [hE])
          have HEL : Hid (E.length ≤ 80) := hid hlen
          obtain ⟨kd, ⟨vid, ms, ls, ds⟩, ⟨f1, f2⟩, num, data⟩ := ev
          obtain ⟨am, al, ad, ea, cm, cl, cd, ec⟩ := A
          unfold evC at hW7 C3
          have x0 : wr.cell? ⟨eb, eo + j * 9, none⟩ = some (.int .i64 kd) := hcell 0 _ rfl
          have x1' : wr.cell? ⟨eb, eo + j * 9 + 1, none⟩ = some (.int .u64 vid) := hcell 1 _ rfl
          have x2' : wr.cell? ⟨eb, eo + j * 9 + 2, none⟩ = some (.slice am ms.length cm) := hcell 2 _ rfl
          have x3 : wr.cell? ⟨eb, eo + j * 9 + 3, none⟩ = some (.slice al ls.length cl) := hcell 3 _ rfl
          have x4 : wr.cell? ⟨eb, eo + j * 9 + 4, none⟩ = some (.slice ad ds.length cd) := hcell 4 _ rfl
          have x5 : wr.cell? ⟨eb, eo + j * 9 + 5, none⟩ = some (.int .u16 f1) := hcell 5 _ rfl
          have x6 : wr.cell? ⟨eb, eo + j * 9 + 6, none⟩ = some (.int .u32 f2) := hcell 6 _ rfl
          have x7 : wr.cell? ⟨eb, eo + j * 9 + 7, none⟩ = some (.int .u64 num) := hcell 7 _ rfl
          have x8 : wr.cell? ⟨eb, eo + j * 9 + 8, none⟩ = some (.slice ea data.length ec) := hcell 8 _ rfl
          obtain ⟨m1, e1⟩ : ∃ q, ms.length = q := ⟨_, rfl⟩
          obtain ⟨m2, e2⟩ : ∃ q, ls.length = q := ⟨_, rfl⟩
          obtain ⟨m3, e3⟩ : ∃ q, ds.length = q := ⟨_, rfl⟩
          obtain ⟨m4, e4⟩ : ∃ q, data.length = q := ⟨_, rfl⟩
          simp only [e1, e2, e3, e4] at hW7 C3 x2' x3 x4 x8
          have hW7 : wr.alloc (.cells #[.int .i64 kd, .int .u64 vid, .slice am m1 cm, .slice al m2 cl, .slice ad m3 cd, .int .u16 f1, .int .u32 f2, .int .u64 num, .slice ea m4 ec] 57) = W7 := hW7
          have y0 : W7.cell? ⟨wr.heap.size, 0, none⟩ = some (.int .i64 kd) := by rw [← hW7]; simp
          have y1 : W7.cell? ⟨wr.heap.size, 1, none⟩ = some (.int .u64 vid) := by rw [← hW7]; simp
          have y2 : W7.cell? ⟨wr.heap.size, 2, none⟩ = some (.slice am m1 cm) := by rw [← hW7]; simp
          have y3 : W7.cell? ⟨wr.heap.size, 3, none⟩ = some (.slice al m2 cl) := by rw [← hW7]; simp
          have y4 : W7.cell? ⟨wr.heap.size, 4, none⟩ = some (.slice ad m3 cd) := by rw [← hW7]; simp
          have y5 : W7.cell? ⟨wr.heap.size, 5, none⟩ = some (.int .u16 f1) := by rw [← hW7]; simp
          have y6 : W7.cell? ⟨wr.heap.size, 6, none⟩ = some (.int .u32 f2) := by rw [← hW7]; simp
          have y7 : W7.cell? ⟨wr.heap.size, 7, none⟩ = some (.int .u64 num) := by rw [← hW7]; simp
          have y8 : W7.cell? ⟨wr.heap.size, 8, none⟩ = some (.slice ea m4 ec) := by rw [← hW7]; simp
          have C3 : Hid (Calls Tryz.prog 25 #[.agg #[.int .i64 kd, .int .u64 vid, .slice am m1 cm, .slice al m2 cl, .slice ad m3 cd, .int .u16 f1, .int .u32 f2, .int .u64 num, .slice ea m4 ec]] W7 fun e w' => e = .returned (.string ⟨E.toArray⟩) ∧ Below W7.heap.size W7 w') := hid C3.out
          clear hjl hcell her hev hed hlen hb7 hE hf2 hbl2 e1 e2 e3 e4
          go_upto_region 9 with fail
          clear hW7 x0 x1' x2' x3 x4 x5 x6 x7 x8
          go_wp2_with fail
          refine C3.out.mono ?_
          rintro e w8 ⟨rfl, hb8⟩
          have HB8 := hid (HB7.out.trans (hb8.mono HB7.out.size))
          have HL8 := hid (HL7.out.extP hb8)
          have C4 := hid (bws_any w.heap.size w.heap.size out2 E w8 HL8.out (by have := hol2.out; have := HEL.out; have := HNB.out; omega) HB8.out.size)
          obtain ⟨el, hel⟩ : ∃ el, E.length = el := ⟨_, rfl⟩
          rw [hel] at C4
          have HEL2 := hid hel
          clear hb8 C3 y0 y1 y2 y3 y4 y5 y6 y7 y8 hel HL7 HB7
          go_wp2_with fail
          refine C4.out.mono ?_
          rintro e w9 ⟨rfl, hbl9, hb9, -⟩
          have HB9 := hid (HB8.out.trans hb9)
          have HL9 : Hid (Bld w.heap.size w.heap.size (out2 ++ E) w9) := hid (.inr hbl9)
          have HZ9 : Hid (w.heap.size < w9.heap.size) := hid (Array.getElem?_eq_some_iff.1 hbl9.2.choose_spec.1).1
          clear hbl9 hb9 C4
          go_wp2_with fail
          go_roundw
          case rel => exact ⟨j + 1, out2 ++ E, by go_num, by omega, hid (by have := hol2.out; have := HEL.out; simp; omega), HF3, HL9, hid ⟨HB9.out, HZ9.out⟩⟩
          case measure => simp [intOf]; omega
        · have hd : evs.drop j = [] := List.drop_eq_nil_of_le (by rw [HM.out]; omega)
          have HF4 : Hid (r = (out2 ++ [10]) ++ reportP (l.drop (k + 1))) := hid (by rw [hf2.out, hd]; simp)
          have C5 := hid (bws_any w.heap.size w.heap.size out2 [10] wr hbl2.out (by have := hol2.out; have := HNB.out; simp; omega) hbw2.out.1.size)
          have C5 : Hid (Calls Tryz.prog 23 #[.pointer (some ⟨w.heap.size, 0, none⟩), .string ⟨#[10]⟩] wr fun e w' => e = .returned (.tuple #[.int .i64 1, .nilIface]) ∧ BldU w.heap.size w.heap.size (out2 ++ [10]) w' ∧ Below w.heap.size wr w' ∧ Lib.OthersKept 5 (some w.heap.size) wr w') := C5
          clear hd hf2
          go_wp2_with fail
          refine C5.out.mono ?_
          rintro e w9 ⟨rfl, hbl9, hb9, -⟩
          have HB9 := hid (hbw2.out.1.trans hb9)
          have HL9 : Hid (Bld w.heap.size w.heap.size (out2 ++ [10]) w9) := hid (.inr hbl9)
          have HZ9 : Hid (w.heap.size < w9.heap.size) := hid (Array.getElem?_eq_some_iff.1 hbl9.2.choose_spec.1).1
          clear hbl9 hb9 C5
          go_wp2_with fail
          go_roundw
          case rel => exact ⟨k + 1, out2 ++ [10], by go_num, by omega, hid (by have := hol2.out; simp; omega), HF4, HL9, hid ⟨HB9.out, HZ9.out⟩⟩
          case measure => simp [intOf]; omega
    · have hd : l.drop k = [] := List.drop_eq_nil_of_le (by rw [hn.out]; omega)
      have HRE : Hid (r = out) := hid (by rw [hf.out, hd]; simp [reportP])
      have C5 := hid (bst_any w.heap.size w.heap.size out wr hbl.out hbw.out.1.size)
      clear hd hf
      go_wp2_with fail
      refine C5.out.mono ?_
      rintro e w9 ⟨rfl, hb9⟩
      have HB9 := hid (hbw.out.1.trans hb9)
      clear hb9 C5
      go_wp2_with fail
      go_ret
      exact ⟨by rw [HRE.out]; rfl, HB9.out⟩
end Go.Proofs.YtehagnbphamjhaaGreatDoor

namespace Go.Proofs.YtehagnbphamjhaaGreatDoor
open Go.RowKit
/-! ### awake of the plays -/
theorem runNone_any (wd : Nat) (w : World) : Calls Tryz.prog 46 #[.pointer (some ⟨wd, 0, none⟩), .slice none 0 0] w fun e w' => e = .returned (.int .i64 0) ∧ w' = w := by
  go_enter Tryz.func46, Tryz.ntmps46
  go_wp2
  go_loopw [5, 14] (fun v i wr => v = .int .i64 0 ∧ i = .int .i64 0 ∧ wr = w) (fun _ _ _ => 0)
  case atStart => exact ⟨rfl, rfl, rfl⟩
  case round =>
    obtain ⟨rfl, rfl, rfl⟩ := hrel
    go_wp2
    go_ret
    exact ⟨rfl, rfl⟩
theorem parseNone_any (w : World) : Calls Tryz.prog 16 #[.string ⟨#[]⟩] w fun e w' => e = .returned (.tuple #[.slice none 0 0, .int .i64 0]) ∧ w' = w := by
  go_enter Tryz.func16, Tryz.ntmps16
  go_wp2
  exact bodyPost_ret (v := .tuple #[.slice none 0 0, .int .i64 0]) (by simp [results, Tryz.results16, go_sem]) rfl ⟨rfl, rfl⟩
theorem report1 : reportP [⟨(0, 1), [⟨1, v1, (0, 0), 0, []⟩]⟩] = [48, 46, 49, 58, 32, 86, 49, 10] := by kernel_rfl
set_option maxRecDepth 100000 in
set_option maxHeartbeats 3200000 in
theorem run1_any (w : World) (ht : TabOk w) : Calls Tryz.prog 22 #[.int .i64 1, .agg #[.int .i64 1, .int .i64 2, .int .i64 3], .string ⟨#[]⟩] w fun e w' => e = .returned (.tuple #[.string ⟨#[48, 46, 49, 58, 32, 86, 49, 10]⟩, .int .i64 0]) ∧ Below w.heap.size w w' := by
  obtain ⟨W1, hW1⟩ : ∃ W1, w.alloc (.cells #[.int .i64 1, .int .i64 2, .int .i64 3] 60) = W1 := ⟨_, rfl⟩
  have hb1 : Below w.heap.size w W1 := by rw [← hW1]; exact (Below.refl _ _).alloc (Nat.le_refl _) _
  have hbb : BoxL W1 w.heap.size 60 [.int .i64 1, .int .i64 2, .int .i64 3] := by rw [← hW1]; exact BoxL.made _ _ _
  have HB1 := hid hb1
  have HT := hid ht
  have b0 := hbb.cell (j := 0) rfl
  have b1 := hbb.cell (j := 1) rfl
  have b2 := hbb.cell (j := 2) rfl
  clear hb1 hbb ht
  go_enter Tryz.func22, Tryz.ntmps22
  go_wp2_with (go_at_call 16; refine (parseNone_any _).mono ?_; rintro e w2 ⟨rfl, rfl⟩)
  refine (new1_any _).mono ?_
  rintro e w3 ⟨wd, rfl, hO, hb3⟩
  have HO := hid hO
  have HB3 := hid (HB1.out.trans (hb3.mono HB1.out.size))
  clear hO hb3 b0 b1 b2 hW1
  go_wp2_with fail
  refine (runNone_any wd w3).mono ?_
  rintro e w4 ⟨rfl, rfl⟩
  obtain ⟨fl, mr, xb, nb, base, A, v8, h1, h2, h3, h4, h5⟩ := HO.out.ex
  have CL := hid (lives1_any h1 h2 h3 h4 h5 rfl v1_wf)
  clear h1 h2 h3 h4 h5 HO
  go_wp2_with fail
  refine CL.out.mono ?_
  rintro e w5 ⟨a, c, rfl, hr5, hb5⟩
  have HB5 : Hid (Below w.heap.size w w5) := hid (HB3.out.trans (hb5.mono HB3.out.size))
  have CR := report_any (c := c) (n := 1) hr5 (hid rfl) ⟨by simp, by simp⟩ (HT.out.ext HB5.out)
  rw [report1] at CR
  have CR := hid CR
  clear hr5 hb5 CL
  go_wp2_with fail
  refine CR.out.mono ?_
  rintro e w6 ⟨rfl, hb6⟩
  go_wp2_with fail
  exact bodyPost_ret (v := .tuple #[.string ⟨#[48, 46, 49, 58, 32, 86, 49, 10]⟩, .int .i64 0]) (by simp [results, Tryz.results22, go_sem]) rfl ⟨rfl, HB5.out.trans (hb6.mono HB5.out.size)⟩
end Go.Proofs.YtehagnbphamjhaaGreatDoor

namespace Go.Proofs.YtehagnbphamjhaaGreatDoor
open Go.RowKit
/-! ### awake of layer 30 -/
def awS : List StepD := [⟨1, 1, 0, []⟩, ⟨9, 2, 0, [97]⟩]
def awT : Str := [116, 105, 99, 107, 32, 49, 10, 115, 101, 110, 100, 32, 50, 32, 120, 54, 49, 10]
theorem awParse : parseS awT = (awS, 0) := by kernel_rfl
theorem byte97 (w : World) (fr : Nat × Nat) : ByteRow (w.alloc (.cells #[.int .u8 97] 5 fr)) (some ⟨w.heap.size, 0, none⟩) [97] :=
  .inr ⟨w.heap.size, 0, rfl, by simp, fun i hi => by
    have h0 : i = 0 := by simpa using hi
    subst h0
    rw [World.cell?_alloc_mark]; rfl⟩
theorem awRow {W1 W2 : World} {b : Nat} (hr : ByteRow W1 (some ⟨b, 0, none⟩) [97]) (hb : Below W1.heap.size W1 W2) {g : Nat} (hB2 : BoxL W2 g 62 [.int .i64 1, .int .i64 1, .int .i64 0, .slice none 0 0, .int .i64 9, .int .i64 2, .int .i64 0, .slice (some ⟨b, 0, none⟩) 1 1]) : StepRow W2 (some ⟨g, 0, none⟩) awS := by
  refine .inr ⟨_, 0, rfl, hB2.lt, fun i hi => ?_⟩
  match i, hi with
  | 0, _ =>
    refine ⟨none, 0, fun j u hj => ?_, (show StepR _ _ (⟨1, 1, 0, []⟩ : StepD) from ⟨by decide, ⟨by decide, by decide, by decide, by decide, by intro x hx; simp at hx⟩, .inl rfl⟩)⟩
    match j, hj with
    | 0, hj => simp [stepC, awS] at hj; subst hj; exact hB2.cell (j := 0) rfl
    | 1, hj => simp [stepC, awS] at hj; subst hj; exact hB2.cell (j := 1) rfl
    | 2, hj => simp [stepC, awS] at hj; subst hj; exact hB2.cell (j := 2) rfl
    | 3, hj => simp [stepC, awS] at hj; subst hj; exact hB2.cell (j := 3) rfl
    | j + 4, hj => simp [stepC] at hj
  | 1, _ =>
    refine ⟨some ⟨b, 0, none⟩, 1, fun j u hj => ?_, (show StepR _ _ (⟨9, 2, 0, [97]⟩ : StepD) from ⟨by decide, ⟨by decide, by decide, by decide, by decide, by intro x hx; simp at hx; omega⟩, hr.ext hb⟩)⟩
    match j, hj with
    | 0, hj => simp [stepC, awS] at hj; subst hj; exact hB2.cell (j := 4) rfl
    | 1, hj => simp [stepC, awS] at hj; subst hj; exact hB2.cell (j := 5) rfl
    | 2, hj => simp [stepC, awS] at hj; subst hj; exact hB2.cell (j := 6) rfl
    | 3, hj => simp [stepC, awS] at hj; subst hj; exact hB2.cell (j := 7) rfl
    | j + 4, hj => simp [stepC] at hj
set_option maxRecDepth 100000 in
set_option maxHeartbeats 3200000 in
theorem awake30_any (w : World) (he : EnvP w) : Calls Tryz.prog 9 #[] w fun e w' => e = .returned (.bool true) ∧ Below w.heap.size w w' := by
  have CP := parse_anyS (s := awT) (by decide) he
  rw [awParse] at CP
  have CP : Hid (Calls Tryz.prog 16 #[.string ⟨#[116, 105, 99, 107, 32, 49, 10, 115, 101, 110, 100, 32, 50, 32, 120, 54, 49, 10]⟩] w fun e w' => ParseRes w' e (awS, 0) ∧ Below w.heap.size w w') := hid CP
  have HE := hid he
  clear he
  go_enter Tryz.func9, Tryz.ntmps9
  go_wp2_with fail
  refine CP.out.mono ?_
  rintro e w2 ⟨⟨a, c, rfl, hr, hc⟩, hb2⟩
  have HR := hid hr
  have HB2 := hid hb2
  have CR := hid (run1_any w2 (HE.out.ext hb2).tab)
  clear hr hc hb2 CP
  go_wp2_with fail
  refine CR.out.mono ?_
  rintro e w3 ⟨rfl, hb3⟩
  have HR3 := hid (HR.out.ext hb3)
  have HB3 := hid (HB2.out.trans (hb3.mono HB2.out.size))
  clear hb3 CR
  obtain ⟨w4, hw4⟩ : ∃ w4, w3.alloc (.cells #[.int .u8 97] 5 (1, 2)) = w4 := ⟨_, rfl⟩
  have hb4 : Below w3.heap.size w3 w4 := by rw [← hw4]; exact (Below.refl _ _).alloc (Nat.le_refl _) _
  have hr4 : ByteRow w4 (some ⟨w3.heap.size, 0, none⟩) [97] := by rw [← hw4]; exact byte97 w3 _
  have hcv : (convert 55 55 (.slice (some ⟨w3.heap.size, 0, none⟩) 1 1)).run Tryz.prog (w3.alloc (.cells #[.int .u8 97] 5)) = .ok (.slice (some ⟨w3.heap.size, 0, none⟩) 1 1) w4 := by
    rw [← hw4]
    exact Go.Joins.run_convert_bytes_const_at w3 55 5 #[.int .u8 97] 1 1 w3.heap.size rfl Tryz.underlying55 Tryz.underlying5
  obtain ⟨w5, hw5⟩ : ∃ w5, w4.alloc (.cells #[.int .i64 1, .int .i64 1, .int .i64 0, .slice none 0 0, .int .i64 9, .int .i64 2, .int .i64 0, .slice (some ⟨w3.heap.size, 0, none⟩) 1 1] 62) = w5 := ⟨_, rfl⟩
  have hb5 : Below w4.heap.size w4 w5 := by rw [← hw5]; exact (Below.refl _ _).alloc (Nat.le_refl _) _
  have hB5 : BoxL w5 w4.heap.size 62 [.int .i64 1, .int .i64 1, .int .i64 0, .slice none 0 0, .int .i64 9, .int .i64 2, .int .i64 0, .slice (some ⟨w3.heap.size, 0, none⟩) 1 1] := by rw [← hw5]; exact BoxL.made _ _ _
  have HB5 := hid (HB3.out.trans ((hb4.trans (hb5.mono hb4.size)).mono HB3.out.size))
  have CS := sameSteps_true (c := c) (d := 2) (n := 2) (xs := awS) (hid rfl) (HR3.out.ext (hb4.trans (hb5.mono hb4.size))) (awRow hr4 hb5 hB5) (by decide)
  have CS := hid CS
  have hal : awS.length = 2 := rfl
  clear hw4 hb4 hr4 hb5 hB5
  go_wp2_with fail
  refine CS.out.mono ?_
  rintro e w6 ⟨rfl, hb6⟩
  go_wp2_with fail
  go_ret
  exact ⟨rfl, HB5.out.trans (hb6.mono HB5.out.size)⟩
end Go.Proofs.YtehagnbphamjhaaGreatDoor

namespace Go.Proofs.YtehagnbphamjhaaGreatDoor
open Go.RowKit
/-! ### play: Print, of longer bytes -/
set_option maxRecDepth 100000 in
set_option maxHeartbeats 12800000 in
theorem print_anyL {l : List StepD} {a : Option Addr} {c n : Nat} {w : World} (hrow : StepRow w a l) (hn : Hid (l.length = n)) (hd : ∀ s ∈ l, s.data.length ≤ 5000) (ht : TabOk w) :
    Calls Tryz.prog 15 #[.slice a n c] w fun e w' => e = .returned (PrintV (printS l)) ∧ Below w.heap.size w w' := by
  obtain ⟨r, hr⟩ : ∃ r, printS l = r := ⟨_, rfl⟩
  rw [hr]
  have HR := hid hr
  clear hr
  by_cases hbig : 4096 < n
  · have HE : Hid (r = ([], 3)) := hid (by rw [← HR.out]; unfold printS; rw [if_pos (by rw [hn.out]; exact hbig)])
    go_enter Tryz.func15, Tryz.ntmps15
    go_wp2_with fail
    refine bodyPost_ret (v := .tuple #[.string ⟨#[]⟩, .int .i64 3]) (by simp [results, Tryz.results15, go_sem]) rfl ⟨by rw [HE.out]; rfl, Below.refl _ _⟩
  · have HE : Hid (r = match mapO lineP l with | none => ([], 1) | some ls => (ls.flatten, 0)) := hid (by rw [← HR.out]; unfold printS; rw [if_neg (by rw [hn.out]; exact hbig)]; cases mapO lineP l <;> rfl)
    obtain ⟨W1, hW1⟩ : ∃ W1, w.alloc (.cells #[.pointer none, .slice none 0 0] 65) = W1 := ⟨_, rfl⟩
    have hb1 : Below w.heap.size w W1 := by rw [← hW1]; exact (Below.refl _ _).alloc (Nat.le_refl _) _
    have HL1 : Hid (Bld w.heap.size w.heap.size [] W1) := hid (by rw [← hW1]; exact Bld.fresh w)
    have HB1 := hid hb1
    have HRW := hid hrow
    have HT := hid ht
    have HD := hid hd
    have HBG : Hid (n ≤ 4096) := hid (by omega)
    clear hrow ht hd hb1
    go_enter Tryz.func15, Tryz.ntmps15
    go_wp2_with fail
    go_loopw [14] (fun iv wr => ∃ (k : Nat) (out : Str), iv = .int .i64 k ∧ k ≤ n ∧ Hid (out.length ≤ 10100 * k) ∧ Hid (r = match mapO lineP (l.drop k) with | none => ([], 1) | some ls => (out ++ ls.flatten, 0)) ∧ Hid (Bld w.heap.size w.heap.size out wr) ∧ Hid (Below w.heap.size w wr)) (fun iv _ => n - (intOf iv).toNat)
    case atStart => exact ⟨0, [], rfl, Nat.zero_le _, hid (by simp), hid (by rw [HE.out, List.drop_zero]; cases mapO lineP l <;> rfl), by first | exact HL1 | (rw [hW1]; exact HL1), by first | exact HB1 | (rw [hW1]; exact HB1)⟩
    case round =>
      obtain ⟨k, out, rfl, hk, hol, hf, hbl, hbw⟩ := hrel
      by_cases hlt : k < n
      · obtain ⟨s, hs⟩ : ∃ s, l[k]? = some s := ⟨l[k]'(by rw [hn.out]; exact hlt), List.getElem?_eq_getElem _⟩
        have hkl := (List.getElem?_eq_some_iff.1 hs).1
        have hsk : l[k] = s := by rw [List.getElem?_eq_getElem hkl] at hs; exact Option.some.inj hs
        obtain ⟨b, off, ai, ci, rfl, hblt, q0, q1, q2, q3, hst⟩ := (HRW.out.ext hbw.out).cells hkl hsk
        have hf2 : r = match lineP s with | none => ([], 1) | some y => (match mapO lineP (l.drop (k + 1)) with | none => ([], 1) | some ls => (out ++ y ++ ls.flatten, 0)) := by
          rw [hf.out, mapO_drop lineP hs]
          cases lineP s
          · rfl
          · cases mapO lineP (l.drop (k + 1)) <;> simp
        have hdl := HD.out s (List.mem_of_getElem? hs)
        obtain ⟨kd, av, bv, data⟩ := s
        simp only at q0 q1 q2 q3 hdl
        obtain ⟨dn, hdn⟩ : ∃ dn, data.length = dn := ⟨_, rfl⟩
        rw [hdn] at q3 hdl
        obtain ⟨W4, hW4⟩ : ∃ W4, wr.alloc (.cells #[.int .i64 kd, .int .i64 av, .int .i64 bv, .slice ai dn ci] 62) = W4 := ⟨_, rfl⟩
        have hb4 : Below wr.heap.size wr W4 := by rw [← hW4]; exact (Below.refl _ _).alloc (Nat.le_refl _) _
        have hx4 : Bx4 W4 wr.heap.size (.int .i64 kd) (.int .i64 av) (.int .i64 bv) (.slice ai dn ci) := by rw [← hW4]; exact Bx4.made _ _ _ _ _ _
        have HB4 := hid (hbw.out.trans (hb4.mono hbw.out.size))
        have C3 := hid (line_any (c := ci) (hst.ext hb4) (hid hdn) (by omega) (HT.out.ext HB4.out))
        obtain ⟨r3, hr3⟩ : ∃ r3, lineP ⟨kd, av, bv, data⟩ = r3 := ⟨_, rfl⟩
        simp only at C3
        rw [hr3] at hf2 C3
        have HF2 := hid hf2
        have HL4 := hid (hbl.out.extP hb4)
        have HLN : Hid (∀ t, r3 = some t → t.length ≤ 10100) := hid fun t ht => by
          have := line_len hst.ok (hr3.trans ht)
          simp only [hdn] at this
          omega
        have y0 := hx4.c0
        have y1 := hx4.c1
        have y2 := hx4.c2
        have y3 := hx4.c3
        clear hs hkl hsk hblt hst hf2 hf hdl hdn hb4 hx4 hr3 hbl
        go_upto_region 7 with fail
        clear hW4 q0 q1 q2 q3
        go_wp2_with fail
        refine C3.out.mono ?_
        rintro e w5 ⟨rfl, hb5⟩
        have HB5 := hid (HB4.out.trans (hb5.mono HB4.out.size))
        have HL5 := hid (HL4.out.extP hb5)
        clear hb5 C3 y0 y1 y2 y3 HB4 HL4
        rcases r3 with _ | t
        · have HRE : Hid (r = ([], 1)) := hid HF2.out
          unfold lineV
          clear HF2
          go_wp2_with fail
          refine bodyPost_ret (v := .tuple #[.string ⟨#[]⟩, .int .i64 1]) (by simp [results, Tryz.results15, go_sem]) rfl ⟨by rw [HRE.out]; rfl, HB5.out⟩
        · unfold lineV
          have htl := HLN.out t rfl
          have C4 := hid (bws_any w.heap.size w.heap.size out t w5 HL5.out (by have := hol.out; have := HBG.out; omega) HB5.out.size)
          obtain ⟨tl, htl2⟩ : ∃ tl, t.length = tl := ⟨_, rfl⟩
          rw [htl2] at C4 htl
          have HTL := hid htl2
          have HF3 : Hid (r = match mapO lineP (l.drop (k + 1)) with | none => ([], 1) | some ls => (out ++ t ++ ls.flatten, 0)) := hid HF2.out
          clear HF2 HLN htl2
          go_wp2_with fail
          refine C4.out.mono ?_
          rintro e w6 ⟨rfl, hbl6, hb6, -⟩
          have HL6 : Hid (Bld w.heap.size w.heap.size (out ++ t) w6) := hid (.inr hbl6)
          have HB6 := hid (HB5.out.trans hb6)
          clear hbl6 hb6 C4
          go_wp2_with fail
          go_roundw
          case rel => exact ⟨k + 1, out ++ t, by go_num, by omega, hid (by have := hol.out; have := HTL.out; simp; omega), HF3, HL6, HB6⟩
          case measure => simp [intOf]; omega
      · have hd : l.drop k = [] := List.drop_eq_nil_of_le (by rw [hn.out]; omega)
        have HRE : Hid (r = (out, 0)) := hid (by rw [hf.out, hd]; simp [mapO])
        have C5 := hid (bst_any w.heap.size w.heap.size out wr hbl.out hbw.out.size)
        clear hd hf
        go_wp2_with fail
        refine C5.out.mono ?_
        rintro e w9 ⟨rfl, hb9⟩
        have HB9 := hid (hbw.out.trans hb9)
        clear hb9 C5
        go_wp2_with fail
        refine bodyPost_ret (v := .tuple #[.string ⟨out.toArray⟩, .int .i64 0]) (by simp [results, Tryz.results15, go_sem]) rfl ⟨by rw [HRE.out]; rfl, HB9.out⟩
end Go.Proofs.YtehagnbphamjhaaGreatDoor

namespace Go.Proofs.YtehagnbphamjhaaGreatDoor
open Go.RowKit
/-! ### the law PlayBack -/
def G30 (w w' : World) (l : List StepD) (e : Ending) : Prop := ∃ g, e = .returned (.bool g) ∧ (g = false → l.length ≤ 5000 ∧ ∀ s ∈ l, s.data.length ≤ 100) ∧ Below w.heap.size w w'
set_option maxRecDepth 100000 in
set_option maxHeartbeats 3200000 in
theorem great30_any {l : List StepD} {a : Option Addr} {c n : Nat} {w : World} (hrow : StepRow w a l) (hn : Hid (l.length = n)) (hnb : n ≤ 17592186044416) :
    Calls Tryz.prog 18 #[.slice a n c] w fun e w' => G30 w w' l e := by
  have HR := hid hrow
  clear hrow
  go_enter Tryz.func18, Tryz.ntmps18
  go_wp2
  go_loopw [3] (fun i wr => ∃ k : Nat, i = .int .i64 k ∧ k ≤ n ∧ wr = w ∧ Hid (∀ j, j < k → ∀ s, l[j]? = some s → s.data.length ≤ 100)) (fun i _ => n - (intOf i).toNat)
  case atStart => exact ⟨0, rfl, Nat.zero_le _, rfl, hid fun j hj => by omega⟩
  case round =>
    obtain ⟨k, rfl, hk, rfl, hall⟩ := hrel
    by_cases hlt : k < n
    · have d1 : decide ((k : Int) < (n : Int)) = true := decide_eq_true (by omega)
      have d2 : decide (k < n) = true := decide_eq_true hlt
      obtain ⟨s, hs⟩ : ∃ s, l[k]? = some s := ⟨l[k]'(by rw [hn.out]; exact hlt), List.getElem?_eq_getElem _⟩
      have hkl := (List.getElem?_eq_some_iff.1 hs).1
      have hsk : l[k] = s := by rw [List.getElem?_eq_getElem hkl] at hs; exact Option.some.inj hs
      obtain ⟨b, off, ai, ci, rfl, hblt, q0, q1, q2, q3, hst⟩ := HR.out.cells hkl hsk
      obtain ⟨m, hm⟩ : ∃ m, s.data.length = m := ⟨_, rfl⟩
      rw [hm] at q3
      have HM := hid hm
      have HSK := hid hs
      clear hs hkl hsk hst hm hblt
      by_cases hbig : 100 < m
      · have e1 : decide ((m : Int) > 100) = true := decide_eq_true (by omega)
        have e2 : decide (100 < (m : Int)) = true := decide_eq_true (by omega)
        have e3 : decide (100 < m) = true := decide_eq_true hbig
        go_wp2
        go_ret
        exact ⟨true, rfl, fun e => (by cases e), Below.refl _ _⟩
      · have e1 : decide ((m : Int) > 100) = false := decide_eq_false (by omega)
        have e2 : decide (100 < (m : Int)) = false := decide_eq_false (by omega)
        have e3 : decide (100 < m) = false := decide_eq_false hbig
        go_wp2
        go_roundw
        case rel => exact ⟨k + 1, by go_num, by omega, by first | rfl | trivial, hid fun j hj s' hs' => by
          by_cases hjk : j = k
          · subst hjk
            have := HSK.out.symm.trans hs'
            cases this
            have := HM.out
            omega
          · exact hall.out j (by omega) s' hs'⟩
        case measure => simp [intOf]; omega
    · have d1 : decide ((k : Int) < (n : Int)) = false := decide_eq_false (by omega)
      have d2 : decide (k < n) = false := decide_eq_false hlt
      have hkn : k = n := by omega
      have HALL : Hid (∀ s ∈ l, s.data.length ≤ 100) := hid fun s hs => by
        obtain ⟨j, hj, he⟩ := List.mem_iff_getElem.1 hs
        exact hall.out j (by rw [hkn, ← hn.out]; exact hj) s (by rw [List.getElem?_eq_getElem hj, he])
      clear hall
      by_cases hbig : 5000 < n
      · have e1 : decide ((n : Int) > 5000) = true := decide_eq_true (by omega)
        have e2 : decide (5000 < (n : Int)) = true := decide_eq_true (by omega)
        have e3 : decide (5000 < n) = true := decide_eq_true hbig
        go_wp2
        go_ret
        exact ⟨true, rfl, fun e => (by cases e), Below.refl _ _⟩
      · have e1 : decide ((n : Int) > 5000) = false := decide_eq_false (by omega)
        have e2 : decide (5000 < (n : Int)) = false := decide_eq_false (by omega)
        have e3 : decide (5000 < n) = false := decide_eq_false hbig
        go_wp2
        go_ret
        exact ⟨false, rfl, fun _ => ⟨by rw [hn.out]; omega, HALL.out⟩, Below.refl _ _⟩
theorem line_ge {s : StepD} {t : Str} (h : lineP s = some t) : 2 * s.data.length ≤ t.length := by
  unfold lineP at h
  split at h
  · cases h
  · rename_i x hx
    split at h
    · cases h
    · rename_i hn
      cases h
      by_cases hb : x.bytes = true
      · unfold lineS
        rw [if_pos hb]
        have := hexP_len s.data
        simp; omega
      · have : s.data = [] := by
          cases hd : s.data with
          | nil => rfl
          | cons b l => exact absurd (.inr ⟨by simpa using hb, by simp [hd]⟩) hn
        rw [this]; simp
theorem mapO_lines : ∀ {l : List StepD} {ls : List Str}, mapO lineP l = some ls → ∀ s ∈ l, 2 * s.data.length ≤ ls.flatten.length
  | [], _, _, s, hs => by cases hs
  | x :: l, ls, h, s, hs => by
    unfold mapO at h
    cases h1 : lineP x with
    | none => simp [h1] at h
    | some t =>
      cases h2 : mapO lineP l with
      | none => simp [h1, h2] at h
      | some ts =>
        simp [h1, h2] at h
        subst h
        have g1 := line_ge h1
        rcases List.mem_cons.1 hs with rfl | hs
        · simp; omega
        · have g2 := mapO_lines h2 s hs
          simp at g2 ⊢; omega
theorem printS_ok {l : List StepD} {t : Str} (h : printS l = (t, 0)) : l.length ≤ 4096 ∧ ∀ s ∈ l, 2 * s.data.length ≤ t.length := by
  unfold printS at h
  split at h
  · cases h
  · rename_i hl
    cases hm : mapO lineP l with
    | none => rw [hm] at h; cases h
    | some ls =>
      rw [hm] at h
      have e : ls.flatten = t := by simpa using h
      rw [← e]
      exact ⟨by omega, mapO_lines hm⟩
theorem mapO_short : ∀ {l : List StepD} {ls : List Str} {B : Nat}, mapO lineP l = some ls → (∀ s ∈ l, StepOk s ∧ s.data.length ≤ B) → ls.flatten.length ≤ l.length * (60 + 2 * B)
  | [], ls, B, h, _ => by simp [mapO] at h; subst h; simp
  | x :: l, ls, B, h, hs => by
    unfold mapO at h
    cases h1 : lineP x with
    | none => simp [h1] at h
    | some t =>
      cases h2 : mapO lineP l with
      | none => simp [h1, h2] at h
      | some ts =>
        simp [h1, h2] at h
        subst h
        have g := hs x (List.mem_cons_self ..)
        have g1 := line_len g.1 h1
        have g2 := mapO_short h2 fun s h => hs s (List.mem_cons_of_mem _ h)
        have g3 : (x :: l).length * (60 + 2 * B) = l.length * (60 + 2 * B) + (60 + 2 * B) := by rw [List.length_cons, Nat.add_mul, Nat.one_mul]
        rw [g3]
        simp at g2 ⊢; omega
theorem printS_short {l : List StepD} {t : Str} {B : Nat} (h : printS l = (t, 0)) (hs : ∀ s ∈ l, StepOk s ∧ s.data.length ≤ B) : t.length ≤ 4096 * (60 + 2 * B) := by
  unfold printS at h
  split at h
  · cases h
  · rename_i hl
    cases hm : mapO lineP l with
    | none => rw [hm] at h; cases h
    | some ls =>
      rw [hm] at h
      have e : ls.flatten = t := by simpa using h
      rw [← e]
      exact Nat.le_trans (mapO_short hm hs) (Nat.mul_le_mul_right _ (by omega))
theorem StepRow.oks {w : World} {a : Option Addr} {l : List StepD} (h : StepRow w a l) : ∀ s ∈ l, StepOk s := fun s hs => by
  obtain ⟨j, hj, he⟩ := List.mem_iff_getElem.1 hs
  obtain ⟨b, off, ai, ci, -, -, -, -, -, -, hst⟩ := h.cells hj he
  exact hst.ok
end Go.Proofs.YtehagnbphamjhaaGreatDoor

namespace Go.Proofs.YtehagnbphamjhaaGreatDoor
open Go.RowKit
/-! ### the law PlayBack: its walk -/
theorem printS_code (l : List StepD) : (printS l).2 = 0 ∨ (printS l).2 = 1 ∨ (printS l).2 = 3 := by
  unfold printS
  split
  · exact .inr (.inr rfl)
  · cases mapO lineP l
    · exact .inr (.inl rfl)
    · exact .inl rfl
theorem endS_code (r : Option (List StepD)) : (endS r).2 = 0 ∨ (endS r).2 = 3 ∨ (endS r).2 = 5 := by
  unfold endS
  cases r with
  | none => exact .inr (.inr rfl)
  | some l =>
    simp only
    split
    · exact .inr (.inl rfl)
    · exact .inl rfl
theorem parseS_code (s : Str) : (parseS s).2 = 0 ∨ (parseS s).2 = 3 ∨ (parseS s).2 = 5 := by
  rw [parse_same]
  exact endS_code _
set_option maxRecDepth 100000 in
set_option maxHeartbeats 6400000 in
theorem playBack_law {l : List StepD} {a : Option Addr} {c : Nat} {s : Str} {w : World} (hrow : StepRow w a l) (hnb : l.length ≤ 17592186044416) (he : EnvP w) :
    Calls Tryz.prog 6 #[.slice a l.length c, .string ⟨s.toArray⟩] w fun e w' => e = .returned (.bool true) ∧ Below w.heap.size w w' := by
  obtain ⟨n, hn⟩ : ∃ n, l.length = n := ⟨_, rfl⟩
  obtain ⟨z, hz⟩ : ∃ z, s.length = z := ⟨_, rfl⟩
  rw [hn] at hnb ⊢
  have HN := hid hn
  have HZ := hid hz
  have CG := hid (great30_any (c := c) hrow HN hnb)
  have HR := hid hrow
  have HE := hid he
  have hsz : (⟨s.toArray⟩ : ByteArray).size = z := by rw [bszP, hz]
  obtain ⟨S, hS⟩ : ∃ S : ByteArray, (⟨s.toArray⟩ : ByteArray) = S := ⟨_, rfl⟩
  rw [hS] at hsz ⊢
  have HS := hid hS
  clear hrow hnb he hn hz hS
  go_enter Tryz.func6, Tryz.ntmps6
  go_wp2_with fail
  refine CG.out.mono ?_
  rintro e w2 ⟨g, rfl, hfew, hb2⟩
  have HB2 := hid hb2
  have CA := hid (awake30_any w2 (HE.out.ext hb2))
  cases g
  case true =>
    clear CG hb2 hfew
    go_wp2_with (go_at_call 9; refine CA.out.mono ?_; rintro e w3 ⟨rfl, hb3⟩)
    go_ret
    exact ⟨rfl, HB2.out.trans (hb3.mono HB2.out.size)⟩
  have HF := hid (hfew rfl)
  clear CG hfew
  by_cases hbig : 5000 < z
  · have e1 : decide ((z : Int) > 5000) = true := decide_eq_true (by omega)
    have e2 : decide (5000 < (z : Int)) = true := decide_eq_true (by omega)
    have e3 : decide (5000 < z) = true := decide_eq_true hbig
    clear hb2
    go_wp2_with (go_at_call 9; refine CA.out.mono ?_; rintro e w3 ⟨rfl, hb3⟩)
    go_ret
    exact ⟨rfl, HB2.out.trans (hb3.mono HB2.out.size)⟩
  have e1 : decide ((z : Int) > 5000) = false := decide_eq_false (by omega)
  have e2 : decide (5000 < (z : Int)) = false := decide_eq_false (by omega)
  have e3 : decide (5000 < z) = false := decide_eq_false hbig
  have HZB : Hid (s.length ≤ 5000) := hid (by rw [HZ.out]; omega)
  have CP := print_anyL (c := c) (HR.out.ext hb2) HN (fun s hs => Nat.le_trans (HF.out.2 s hs) (by decide)) (HE.out.ext hb2).tab
  obtain ⟨t, e, hpr⟩ : ∃ t e, printS l = (t, e) := ⟨_, _, rfl⟩
  have hcode := printS_code l
  rw [hpr] at CP hcode
  have HPR := hid hpr
  have CP : Hid (Calls Tryz.prog 15 #[.slice a n c] w2 fun e' w' => e' = .returned (.tuple #[.string ⟨t.toArray⟩, .int .i64 e]) ∧ Below w2.heap.size w2 w') := hid CP
  clear hb2 hpr CA
  go_wp2_with fail
  refine CP.out.mono ?_
  rintro e' w3 ⟨rfl, hb3⟩
  have HB3 := hid (HB2.out.trans (hb3.mono HB2.out.size))
  clear hb3 CP
  go_upto_if 27 with fail
  go_cut [5] (fun _ wx => Hid (Below w.heap.size w wx))
  case first =>
    rcases hcode with h0 | h0 | h0
    · skip
      subst h0
      have hok := HR.out.oks
      have ht := printS_short (B := 100) HPR.out fun s hs => ⟨hok s hs, HF.out.2 s hs⟩
      have CQ := parse_anyS (s := t) (by omega) (HE.out.ext HB3.out)
      rw [printS_parseS hok HPR.out] at CQ
      have CQ := hid CQ
      have HLN : Hid (n ≤ 5000) := hid (by rw [← HN.out]; exact HF.out.1)
      clear hok ht hsz e1 e2 e3
      go_wp2_with fail
      refine CQ.out.mono ?_
      rintro e' w4 ⟨⟨a4, c4, rfl, hr4, hc4⟩, hb4⟩
      have hr4 : StepRow w4 a4 l := hr4
      have CS := hid (sameSteps_true (c := c) (d := c4) HN ((HR.out.ext HB3.out).ext hb4) hr4 (by have := HLN.out; omega))
      have HB4 := hid (HB3.out.trans (hb4.mono HB3.out.size))
      obtain ⟨q, hq⟩ : ∃ q, (l, 0).1.length = q := ⟨_, rfl⟩
      have hqn : q = n := by rw [← hq]; exact HN.out
      rw [hq]
      subst hqn
      clear hr4 hc4 hb4 CQ hq
      go_wp2_with (go_at_call 13; refine CS.out.mono ?_; rintro e' w5 ⟨rfl, hb5⟩)
      go_meet
      exact hid (HB4.out.trans (hb5.mono HB4.out.size))
    · skip
      subst h0
      go_wp2_with fail
      go_meet
      exact HB3
    · skip
      subst h0
      go_wp2_with fail
      go_meet
      exact HB3
  case rest =>
    rename World => w4
    have HB4 : Hid (Below w.heap.size w w4) := hcut
    clear hcode HPR HB3
    have CQ := parse_anyS (s := s) (by have := HZB.out; omega) (HE.out.ext HB4.out)
    obtain ⟨m, f, hpa⟩ : ∃ m f, parseS s = (m, f) := ⟨_, _, rfl⟩
    have hcode := parseS_code s
    rw [hpa] at CQ hcode
    rw [HS.out] at CQ
    have CQ := hid CQ
    have HPA := hid hpa
    clear hpa hcut
    go_wp2_with fail
    refine CQ.out.mono ?_
    rintro e' w5 ⟨⟨a5, c5, rfl, hr5, hc5⟩, hb5⟩
    have HR5 : Hid (StepRow w5 a5 m) := hid hr5
    have HB5 := hid (HB4.out.trans (hb5.mono HB4.out.size))
    have CA := hid (awake30_any w5 (HE.out.ext HB5.out))
    obtain ⟨q, hq⟩ : ∃ q, (m, f).1.length = q := ⟨_, rfl⟩
    rw [hq]
    have HQ : Hid (m.length = q) := hid hq
    clear hr5 hc5 hb5 CQ hq
    rcases hcode with h0 | h0 | h0
    · skip
      subst h0
      have hpb := parseS_printS HPA.out
      have hdl := (printS_ok hpb).2
      have CR := print_anyL (c := c5) HR5.out HQ (fun x hx => by have h1 := hdl x hx; have h2 := HZB.out; omega) (HE.out.ext HB5.out).tab
      rw [hpb] at CR
      have CR : Hid (Calls Tryz.prog 15 #[.slice a5 q c5] w5 fun e' w' => e' = .returned (.tuple #[.string S, .int .i64 0]) ∧ Below w5.heap.size w5 w') := hid (by rw [← HS.out]; exact CR)
      clear hpb hdl CA
      go_wp2_with fail
      refine CR.out.mono ?_
      rintro e' w6 ⟨rfl, hb6⟩
      have HB6 := hid (HB5.out.trans (hb6.mono HB5.out.size))
      have CA := hid (awake30_any w6 (HE.out.ext HB6.out))
      clear hb6 CR
      go_wp2_with (go_at_call 9; refine CA.out.mono ?_; rintro e' w7 ⟨rfl, hb7⟩)
      go_ret
      exact ⟨rfl, HB6.out.trans (hb7.mono HB6.out.size)⟩
    · skip
      subst h0
      go_wp2_with (go_at_call 9; refine CA.out.mono ?_; rintro e' w7 ⟨rfl, hb7⟩)
      go_ret
      exact ⟨rfl, HB5.out.trans (hb7.mono HB5.out.size)⟩
    · skip
      subst h0
      go_wp2_with (go_at_call 9; refine CA.out.mono ?_; rintro e' w7 ⟨rfl, hb7⟩)
      go_ret
      exact ⟨rfl, HB5.out.trans (hb7.mono HB5.out.size)⟩
end Go.Proofs.YtehagnbphamjhaaGreatDoor

