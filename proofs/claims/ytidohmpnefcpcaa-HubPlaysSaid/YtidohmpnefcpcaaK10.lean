/- Parts of the proof: K10. -/
import Derived.Test.YtidohmpnefcpcaaGHubPlays13
namespace Go.Proofs.Ytidohmpnefcpcaa
open Go.RowKit
/-! ### the reference's hub: made -/
def aheadQ (p q : Pid) : Bool := decide (p.1 < q.1 ∨ p.1 = q.1 ∧ p.2 < q.2)
set_option maxHeartbeats 400000 in
theorem raheadQ_is {a b c d : Int} {w : World} {r : Bool} (h : Hid (aheadQ (a, b) (c, d) = r)) : Calls Try.prog 53 #[.agg #[.int .u16 a, .int .u32 b], .agg #[.int .u16 c, .int .u32 d]] w fun e w' => e = .returned (.bool r) ∧ Below w.heap.size w w' := by
  have hB : Below w.heap.size w ((w.alloc (.cells #[.int .u16 a, .int .u32 b] 30)).alloc (.cells #[.int .u16 c, .int .u32 d] 30)) := ((Below.refl _ _).alloc (Nat.le_refl _) _).alloc (by simp) _
  by_cases hac : a = c
  · subst hac
    have e1 : (a != a) = false := by simp
    have e2 : Hid (decide (b < d) = r) := hid (by rw [← h.out]; unfold aheadQ; simp)
    go_enter Try.func53, Try.ntmps53
    go_wp2
    go_ret
    exact ⟨ret_bool e2.out, hB⟩
  · have e1 : (a != c) = true := by simpa using hac
    have e2 : Hid (decide (a < c) = r) := hid (by rw [← h.out]; unfold aheadQ; simp [hac])
    clear hac
    go_enter Try.func53, Try.ntmps53
    go_wp2
    go_ret
    exact ⟨ret_bool e2.out, hB⟩
/-- its place in the order -/
def ratN (p : Pid) : List RPeer → Nat → Nat
  | [], i => i
  | y :: l, i => if aheadQ y.p p = true then ratN p l (i + 1) else i
theorem ratN_drop {p : Pid} {L : List RPeer} {k : Nat} {y : RPeer} (hy : L[k]? = some y) : ratN p (L.drop k) k = if aheadQ y.p p = true then ratN p (L.drop (k + 1)) (k + 1) else k := by
  have hlt := (List.getElem?_eq_some_iff.1 hy).1
  rw [List.drop_eq_getElem_cons hlt, (List.getElem?_eq_some_iff.1 hy).2]
  rfl
def rsNew : RSnd := ⟨[], [], 0, 0, 0⟩
def rkNew : RLnk := ⟨0, [], false⟩
def rpNew (p : Pid) (sb lb : Nat) : RPeer := ⟨p, sb, lb, .slice none 0 0, .slice none 0 0, .slice none 0 0, rsNew, rkNew⟩
section
variable {wr w5 wS wL wP w6 w7 : World} {N : Nat → Prop} {x at' : Nat} {sf p : Pid} {lv v9 v10 v11 : Value} {L : List RPeer}
set_option maxRecDepth 100000 in
theorem rmade_put (H : RHubIs wr N x sf lv L) (hN : ∀ b, N b → b < wr.heap.size) (hlen : L.length < 48) (hok : ok p) (hb5 : Below wr.heap.size wr w5) (h9 : ∀ g, v9.ownBlock = some g → wr.heap.size ≤ g ∧ g < w5.heap.size)
    (hS : w5.alloc (.cells #[.slice none 0 0, .slice none 0 0, .int .u64 0, .int .u64 0, .int .u64 0] 67) = wS) (hL : wS.alloc (.cells #[.int .u64 0, .slice none 0 0, .bool false] 92) = wL) (hbP : Below wL.heap.size wL wP)
    (hm6 : Mut (fun g => v9.ownBlock = some g) wP w6) (h10 : ∀ g, v10.ownBlock = some g → v9.ownBlock = some g ∨ wP.heap.size ≤ g) (hm7 : Mut (fun g => v10.ownBlock = some g) w6 w7) (h11 : ∀ g, v11.ownBlock = some g → v10.ownBlock = some g ∨ w6.heap.size ≤ g)
    (hrow : RowP w7 0 4 v11 (((L.take at').map peerC ++ [peerC (rpNew p w5.heap.size wS.heap.size)]) ++ (L.drop at').map peerC)) :
    RHubR wr (w7.setCell ⟨x, 2, none⟩ v11) N (fun b => N b ∨ fpX x v11 (L.take at' ++ rpNew p w5.heap.size wS.heap.size :: L.drop at') b) x sf lv L v11 (L.take at' ++ rpNew p w5.heap.size wS.heap.size :: L.drop at') ∧ w7.cell? ⟨x, 2, none⟩ = some lv ∧ w7.frozen? ⟨x, 2, none⟩ = false := by
  have hz5 := hb5.size
  have hzS : wS.heap.size = w5.heap.size + 1 := by rw [← hS]; simp
  have hzL : wL.heap.size = wS.heap.size + 1 := by rw [← hL]; simp
  have hzP := hbP.size
  have hz6 := hm6.size
  have hz7 := hm7.size
  have hxl := H.box.lt
  have hbS : Below w5.heap.size w5 wS := by rw [← hS]; exact (Below.refl _ _).alloc (Nat.le_refl _) _
  have hbL : Below wS.heap.size wS wL := by rw [← hL]; exact (Below.refl _ _).alloc (Nat.le_refl _) _
  have hbw : Below wr.heap.size wr wP := hb5.trans ((hbS.trans ((hbL.trans (hbP.mono (by omega))).mono (by omega))).mono hz5)
  have h10w : ∀ g, v10.ownBlock = some g → wr.heap.size ≤ g ∧ (g < w5.heap.size ∨ wP.heap.size ≤ g) := fun g e => by
    rcases h10 g e with e | e
    · exact ⟨(h9 g e).1, .inl (h9 g e).2⟩
    · exact ⟨by omega, .inr e⟩
  have h11w : ∀ g, v11.ownBlock = some g → wr.heap.size ≤ g ∧ (g < w5.heap.size ∨ wP.heap.size ≤ g) := fun g e => by
    rcases h11 g e with e | e
    · exact h10w g e
    · exact ⟨by omega, .inr (by omega)⟩
  obtain ⟨w8, hw8⟩ : ∃ w8, w7.setCell ⟨x, 2, none⟩ v11 = w8 := ⟨_, rfl⟩
  have hm8 : Mut (fun b => b = x) w7 w8 := by rw [← hw8]; exact mut1
  have hM7 : Mut (fun b => v9.ownBlock = some b ∨ v10.ownBlock = some b) wP w7 := (hm6.mono fun b _ e => .inl e).trans (hm7.mono fun b _ e => .inr e)
  have hM : Mut (fun b => (v9.ownBlock = some b ∨ v10.ownBlock = some b) ∨ b = x) wP w8 := (hM7.mono fun b _ e => .inl e).trans (hm8.mono fun b _ e => .inr e)
  have hlow : ∀ b, (v9.ownBlock = some b ∨ v10.ownBlock = some b) → wr.heap.size ≤ b ∧ (b < w5.heap.size ∨ wP.heap.size ≤ b) := fun b e => by
    rcases e with e | e
    · exact ⟨(h9 b e).1, .inl (h9 b e).2⟩
    · exact h10w b e
  have hGN : ∀ b, b < wP.heap.size → ((v9.ownBlock = some b ∨ v10.ownBlock = some b) ∨ b = x) → N b ∨ wr.heap.size ≤ b := fun b _ e => by
    rcases e with e | e
    · exact .inr (hlow b e).1
    · rw [e]; exact .inl H.xn
  have hbx7 : Bx3 w7 x (.int .u16 sf.1) (.int .u32 sf.2) lv := (H.box.mut (Mut.of_below (F := fun _ => False) hbw) id).mut hM7 fun e => by have := (hlow x e).1; omega
  have hold : ∀ y ∈ L, PeerIs w8 (fun b => N b ∨ wr.heap.size ≤ b) y := fun y hy => by
    have h1 := (H.pr y hy).less (N' := fun b => N b ∨ wr.heap.size ≤ b) (fun b e => .inl ((H.pr y hy).fp b e)) (fun b e => e)
    refine (h1.mut (Mut.of_below (F := fun _ => False) hbw) (fun _ _ e => e.elim) fun _ _ e => e).mut hM hGN fun b e e2 => ?_
    rcases e2 with e2 | e2
    · have := (hlow b e2).1; have := (H.pr y hy).fplt b e; omega
    · exact (H.out y hy b e).1 e2
  have hnewp : PeerIs w8 (fun b => N b ∨ wr.heap.size ≤ b) (rpNew p w5.heap.size wS.heap.size) := by
    have b5 : Bx5 wS w5.heap.size (.slice none 0 0) (.slice none 0 0) (.int .u64 0) (.int .u64 0) (.int .u64 0) := by rw [← hS]; exact Bx5.made w5 _ _ _ _ _ _
    have b3 : Bx3 wL wS.heap.size (.int .u64 0) (.slice none 0 0) (.bool false) := by rw [← hL]; exact Bx3.made wS _ _ _ _
    have hn1 : ¬ ((v9.ownBlock = some w5.heap.size ∨ v10.ownBlock = some w5.heap.size) ∨ w5.heap.size = x) := fun e => by
      rcases e with e | e
      · have := (hlow _ e).2; omega
      · omega
    have hn2 : ¬ ((v9.ownBlock = some wS.heap.size ∨ v10.ownBlock = some wS.heap.size) ∨ wS.heap.size = x) := fun e => by
      rcases e with e | e
      · have := (hlow _ e).2; omega
      · omega
    have b5' := ((b5.mut (Mut.of_below (F := fun _ => False) (hbL.trans (hbP.mono (by omega)))) id)).mut hM hn1
    have b3' := (b3.mut (Mut.of_below (F := fun _ => False) hbP) id).mut hM hn2
    have hdj : ∀ b, fpT (rpNew p w5.heap.size wS.heap.size).sb (rpNew p w5.heap.size wS.heap.size).iv (rpNew p w5.heap.size wS.heap.size).tv b → ¬ fpK (rpNew p w5.heap.size wS.heap.size).lb (rpNew p w5.heap.size wS.heap.size).hv b := fun b e e2 => by
      rcases e with e | e | e
      · rcases e2 with e2 | e2
        · have e : b = w5.heap.size := e
          have e2 : b = wS.heap.size := e2
          omega
        · cases e2
      · cases e
      · cases e
    exact ⟨⟨b5', ⟨[], RowP.nil _ _ _, ElsAt.nil _ _⟩, RowP.nil _ _ _, .inr hz5, fun g e => (by cases e), fun g e => (by cases e), fun g e => (by cases e), (show 0 ≤ 128 by decide), (show 0 < 18446744073709551616 by decide), (show 0 < 18446744073709551616 by decide), fun q hq => (by cases hq)⟩, ⟨b3', ⟨[], RowP.nil _ _ _, ElsAt.nil _ _⟩, .inr (by show wr.heap.size ≤ wS.heap.size; omega), fun g e => (by cases e), (show 0 < 18446744073709551616 by decide), fun q hq => (by cases hq), (show 0 ≤ 999990 by decide)⟩, hdj, hok⟩
  have hfpn : ∀ b, fpY (rpNew p w5.heap.size wS.heap.size) b → b = w5.heap.size ∨ b = wS.heap.size := fun b e => by
    rcases e with (e | e | e) | (e | e)
    · exact .inl e
    · cases e
    · cases e
    · exact .inr e
    · cases e
  have hsplit : ∀ y, y ∈ L.take at' ++ rpNew p w5.heap.size wS.heap.size :: L.drop at' → y = rpNew p w5.heap.size wS.heap.size ∨ y ∈ L := fun y hy => by
    simp only [List.mem_append, List.mem_cons] at hy
    rcases hy with hy | hy | hy
    · exact .inr (List.mem_of_mem_take hy)
    · exact .inl hy
    · exact .inr (List.mem_of_mem_drop hy)
  have hdl : (L.take at' ++ L.drop at').Pairwise fun y z => ∀ b, fpY y b → ¬ fpY z b := by rw [List.take_append_drop]; exact H.dis
  have hdl2 := List.pairwise_append.1 hdl
  have hR : RHubIs w8 (fun b => N b ∨ wr.heap.size ≤ b) x sf v11 (L.take at' ++ rpNew p w5.heap.size wS.heap.size :: L.drop at') := by
    refine ⟨by rw [← hw8]; exact hbx7.set2 _, ?_, .inl H.xn, fun g e => ⟨.inr (h11w g e).1, by have := (h11w g e).1; omega⟩, fun y hy => ?_, fun y hy b e => ?_, ?_, by simp; omega⟩
    · have h1 := hrow.mut hm8 fun g e e2 => by have := (h11w g e).1; have e2 : g = x := e2; omega
      simpa [List.append_assoc] using h1
    · rcases hsplit y hy with rfl | hy
      · exact hnewp
      · exact hold y hy
    · rcases hsplit y hy with rfl | hy
      · have h1 := hfpn b e
        exact ⟨by omega, fun e2 => by have := (h11w b e2).2; omega⟩
      · have h1 := (H.pr y hy).fplt b e
        exact ⟨(H.out y hy b e).1, fun e2 => by have := (h11w b e2).1; omega⟩
    · refine List.pairwise_append.2 ⟨hdl2.1, List.pairwise_cons.2 ⟨fun y hy b e e2 => ?_, hdl2.2.1⟩, fun y hy z hz b e e2 => ?_⟩
      · have h1 := hfpn b e
        have h2 := (H.pr y (List.mem_of_mem_drop hy)).fplt b e2
        omega
      · rcases List.mem_cons.1 hz with rfl | hz
        · have h1 := hfpn b e2
          have h2 := (H.pr y (List.mem_of_mem_take hy)).fplt b e
          omega
        · exact hdl2.2.2 y hy z hz b e e2
  have hfq : ∀ b, fpX x v11 (L.take at' ++ rpNew p w5.heap.size wS.heap.size :: L.drop at') b → fpX x lv L b ∨ wr.heap.size ≤ b := fun b e => by
    rcases e with e | e | ⟨y, hy, e⟩
    · exact .inl (.inl e)
    · exact .inr (h11w b e).1
    · rcases hsplit y hy with rfl | hy
      · have := hfpn b e; exact .inr (by omega)
      · exact .inl (.inr (.inr ⟨y, hy, e⟩))
  rw [hw8]
  refine ⟨⟨hR.less (fun b e => .inr e) fun b e => ?_, fun b e => .inl e, fun b e => ?_, fun b e => ?_, ?_, hfq⟩, hbx7.c2, hbx7.f 2⟩
  · rcases e with e | e
    · exact .inl (.inl e)
    · exact .inl ((hfq b e).imp (H.fp b) id)
  · rcases e with e | e
    · exact .inl e
    · exact (hfq b e).imp (H.fp b) id
  · rcases e with e | e
    · have := hN b e; have := hM.size; omega
    · exact hR.fplt b e
  · refine (Mut.of_below hbw).transG hM fun b hb e => ?_
    rcases e with e | e
    · have := (hlow b e).1; omega
    · exact .inl e
end
theorem infoPeer : (Try.prog.info? 64).map (fun i => (i.zero, i.size, i.bytes)) = some (some (.agg #[.int .u16 0, .int .u32 0, .pointer none, .pointer none]), 4, 24) := by kernel_rfl
theorem sizePeer (W : World) : (sizeOf 64).run Try.prog W = .ok 4 W := by kernel_rfl
theorem cells4_new (W : World) (t : TypeId) (x y z u' : Value) : ∀ j u, [x, y, z, u'][j]? = some u → (W.alloc (.cells #[x, y, z, u'] t)).cell? ⟨W.heap.size, j, none⟩ = some u := fun j u hj => by
  match j, hj with
  | 0, hj => simp at hj; subst hj; simp
  | 1, hj => simp at hj; subst hj; simp
  | 2, hj => simp at hj; subst hj; simp
  | 3, hj => simp at hj; subst hj; simp
  | j + 4, hj => simp at hj
theorem els4 {a b : Int} {p q : Option Addr} : [Value.int .u16 a, .int .u32 b, .pointer p, .pointer q].length = 4 ∧ ∀ u ∈ [Value.int .u16 a, .int .u32 b, .pointer p, .pointer q], u.oneCell' = true := ⟨rfl, fun u hu => by
  simp at hu
  rcases hu with rfl | rfl | rfl | rfl <;> rfl⟩
/-- what made leaves -/
def RMadeR (w w' : World) (N : Nat → Prop) (x : Nat) (sf : Pid) (lv : Value) (L : List RPeer) (p : Pid) (e : Ending) : Prop :=
  (e = .returned (.int .i64 (-1)) ∧ p ∉ L.map (·.p) ∧ 48 ≤ L.length ∧ Below w.heap.size w w') ∨
  ∃ N' lv' A y B, e = .returned (.int .i64 (A.length : Nat)) ∧ RHubR w w' N N' x sf lv L lv' (A ++ y :: B) ∧ y.p = p ∧
    ((L = A ++ y :: B ∧ p ∉ A.map (·.p)) ∨ (p ∉ L.map (·.p) ∧ L.length < 48 ∧ A = L.take (ratN p L 0) ∧ B = L.drop (ratN p L 0) ∧ y.s = rsNew ∧ y.k = rkNew))
set_option maxRecDepth 100000 in
set_option maxHeartbeats 12800000 in
theorem rmade_any {w : World} {N : Nat → Prop} {x : Nat} {sf : Pid} {lv : Value} {L : List RPeer} (H : RHubIs w N x sf lv L) (hN : ∀ b, N b → b < w.heap.size) (p1 p2 : Int) (hok : ok (p1, p2)) :
    Calls Try.prog 39 #[.pointer (some ⟨x, 0, none⟩), .agg #[.int .u16 p1, .int .u32 p2]] w fun e w' => RMadeR w w' N x sf lv L (p1, p2) e := by
  obtain ⟨W1, hW1⟩ : ∃ W1, w.alloc (.cells #[.int .u16 p1, .int .u32 p2] 30) = W1 := ⟨_, rfl⟩
  have hb1 : Below w.heap.size w W1 := by rw [← hW1]; exact (Below.refl _ _).alloc (Nat.le_refl _) _
  have d0 : W1.cell? ⟨w.heap.size, 0, none⟩ = some (.int .u16 p1) := by rw [← hW1]; simp
  have d1 : W1.cell? ⟨w.heap.size, 1, none⟩ = some (.int .u32 p2) := by rw [← hW1]; simp
  obtain ⟨la, lc, hlit, hlc⟩ := H.lit
  obtain ⟨n, hn⟩ : ∃ n, L.length = n := ⟨_, rfl⟩
  rw [hn] at hlit hlc
  subst hlit
  have CF := hid (rhfind_any (H.ext hb1) p1 p2)
  have HH0 := hid H
  have HN0 := hid hN
  have HOK := hid hok
  have HN := hid hn
  have HLM : Hid (L.length ≤ 48) := hid H.lim
  have HB1 := hid hb1
  have HD := hid (And.intro d0 d1)
  cases hpos : rposN (p1, p2) L 0 with
  | some j =>
    have hri : rposI (p1, p2) L = (j : Int) := by unfold rposI; rw [hpos]
    rw [hri] at CF
    obtain ⟨A, y, B, e1, e2, e3, e4⟩ := rposN_some hpos
    rw [Nat.zero_add] at e3
    have t1 : decide ((j : Int) ≥ 0) = true := decide_eq_true (by omega)
    have t2 : decide ((0 : Int) ≤ (j : Int)) = true := decide_eq_true (by omega)
    have HE := hid (And.intro e1 (And.intro e2 (And.intro e3 e4)))
    clear H hN hb1 e1 e2 e3 e4 hpos hri hn hlc hok
    go_enter Try.func39, Try.ntmps39
    go_wp2_with fail
    refine CF.out.mono ?_
    rintro e w2 ⟨rfl, hb2⟩
    go_wp2_with fail
    go_ret
    obtain ⟨e1, e2, e3, e4⟩ := HE.out
    have hbw := HB1.out.trans (hb2.mono HB1.out.size)
    have hs := RHubR.same HH0.out HN0.out hbw
    rw [e1] at hs
    exact .inr ⟨N, _, A, y, B, by rw [e3]; rfl, by rw [e1]; exact hs, e2, .inl ⟨e1, e4⟩⟩
  | none =>
  have hri : rposI (p1, p2) L = -1 := by unfold rposI; rw [hpos]
  rw [hri] at CF
  have HNP := hid (rposN_none hpos)
  have t1 : decide ((-1 : Int) ≥ 0) = false := by decide
  have c2 := (H.ext hb1).box.c2
  by_cases h48 : 48 ≤ n
  · have s1 : decide ((n : Int) ≥ 48) = true := decide_eq_true (by omega)
    have s2 : decide ((48 : Int) ≤ (n : Int)) = true := decide_eq_true (by omega)
    have s3 : decide (48 ≤ n) = true := decide_eq_true h48
    have H48 : Hid (48 ≤ L.length) := hid (by omega)
    clear H hN hpos hri hn hlc hok
    go_enter Try.func39, Try.ntmps39
    go_wp2_with fail
    refine CF.out.mono ?_
    rintro e w2 ⟨rfl, hb2⟩
    have c22 := cell_toB c2 hb2
    have HB2 := hid (HB1.out.trans (hb2.mono HB1.out.size))
    clear hb2 hb1 c2 d0 d1
    go_wp2_with fail
    go_ret
    exact .inl ⟨rfl, HNP.out, H48.out, HB2.out⟩
  have s1 : decide ((n : Int) ≥ 48) = false := decide_eq_false (by omega)
  have s2 : decide ((48 : Int) ≤ (n : Int)) = false := decide_eq_false (by omega)
  have s3 : decide (48 ≤ n) = false := decide_eq_false h48
  have HLN : Hid (L.length < 48) := hid (by omega)
  have HLC := hid hlc
  obtain ⟨i0, hi, hz0, hz1, hz2⟩ := info_parts infoPeer
  have hn48 : n < 48 := by omega
  clear H hN hpos hri hn hlc hok h48
  go_enter Try.func39, Try.ntmps39
  go_wp2_with fail
  refine CF.out.mono ?_
  rintro e w2 ⟨rfl, hb2⟩
  have c22 := cell_toB c2 hb2
  have HB2 := hid (HB1.out.trans (hb2.mono HB1.out.size))
  have HD2 := hid (And.intro (cell_toB d0 hb2) (cell_toB d1 hb2))
  clear hb2 hb1 c2 d0 d1 CF
  go_wp2_with fail
  go_loopw [6] (fun kv wr => Hid (Below w2.heap.size w2 wr) ∧ ∃ k : Nat, kv = .int .i64 k ∧ k ≤ n ∧ Hid (ratN (p1, p2) L 0 = ratN (p1, p2) (L.drop k) k)) (fun kv _ => n - (intOf kv).toNat)
  case atStart => exact ⟨hid (Below.refl _ _), 0, rfl, Nat.zero_le _, hid rfl⟩
  case round =>
    obtain ⟨HB, k, rfl, hk, HL⟩ := hrel
    rename World => wr
    have hbw := HB2.out.trans (HB.out.mono HB2.out.size)
    have H2 := HH0.out.ext hbw
    have c2 := H2.box.c2
    have g0 := cell_toB HD2.out.1 HB.out
    have g1 := cell_toB HD2.out.2 HB.out
    by_cases hlt : k < n
    · have t1' : decide ((k : Int) < (n : Int)) = true := decide_eq_true (by omega)
      have t2' : decide (k < n) = true := decide_eq_true hlt
      obtain ⟨y, hy⟩ : ∃ y, L[k]? = some y := ⟨_, List.getElem?_eq_getElem (by rw [HN.out]; exact hlt)⟩
      obtain ⟨g, off, cap, e, hg, q0, q1, -, -⟩ := H2.peer hy
      injection e with e1 e2 e3
      subst e1
      clear e2 e3
      have HLD := hid (ratN_drop (p := (p1, p2)) hy)
      obtain ⟨⟨y1, y2⟩, ysb, ylb, yiv, ytv, yhv, ys, yk⟩ := y
      obtain ⟨q, hq⟩ : ∃ q, aheadQ (y1, y2) (p1, p2) = q := ⟨_, rfl⟩
      have CA : Hid (∀ W, Below wr.heap.size wr W → Calls Try.prog 53 #[.agg #[.int .u16 y1, .int .u32 y2], .agg #[.int .u16 p1, .int .u32 p2]] W fun e w' => e = .returned (.bool q) ∧ Below W.heap.size W w') := hid fun W _ => raheadQ_is (hid hq)
      have q0' := cell_extK q0
      have q1' := cell_extK q1
      have c2' := cell_extK c2
      have g0' := cell_extK g0
      have g1' := cell_extK g1
      have HQ := hid hq
      clear hy hg q0 q1 hq H2 hbw
      cases q
      · have HAT : Hid (ratN (p1, p2) L 0 = k) := hid (by rw [HL.out, HLD.out, if_neg (by rw [HQ.out]; exact Bool.false_ne_true)])
        clear HQ
        go_wp2_with fail
        refine wp_region_ext (w := wr) (Below.refl _ _) (by kernel_rfl) (by kernel_rfl) ?_
        repeat (go_big_quiet_step (with_reducible exact det_ext CA _))
        refine wpQuiet_nil ?_
        rintro wq ⟨⟨_, hb9⟩, rfl⟩
        clear q0' q1' c2' g0' g1' c2 CA
        have hbq := (HB2.out.trans (HB.out.mono HB2.out.size)).trans (hb9.mono (HB2.out.trans (HB.out.mono HB2.out.size)).size)
        have HBQ := hid hbq
        have HQ := hid (HH0.out.ext hbq)
        have HNQ : Hid (∀ b, N b → b < wq.heap.size) := hid fun b e => Nat.lt_of_lt_of_le (HN0.out b e) hbq.size
        have HXL : Hid (x < wq.heap.size) := hid HQ.out.box.lt
        have c2q : wq.cell? ⟨x, 2, none⟩ = some (.slice (some (⟨g, off, none⟩ : Addr)) n lc) := HQ.out.box.c2
        have g0 := cell_toB g0 hb9
        have g1 := cell_toB g1 hb9
        have hlc := HLC.out
        have r1 : ∀ W, (Instr.slice 50 (.slice (some (⟨g, off, none⟩ : Addr)) n lc) none (some (.int .i64 (k : Int))) none).run Try.prog W = .ok (.slice (some (⟨g, off, none⟩ : Addr)) k lc) W := fun W => run_toP Try.underlying50 sizePeer (by omega) hlc W
        have r2 : ∀ W, (Instr.slice 50 (.slice (some (⟨g, off, none⟩ : Addr)) n lc) (some (.int .i64 (k : Int))) none none).run Try.prog W = .ok (.slice (if lc = k then (some (⟨g, off, none⟩ : Addr)) else (some (⟨g, off, none⟩ : Addr)).map (·.add (k * 4))) (n - k) (lc - k)) W := fun W => run_fromP (k := k) Try.underlying50 sizePeer (by omega) W
        have hml : (L.map peerC).length = n := by rw [List.length_map]; exact HN.out
        have htk := HQ.out.row.take (a := some ⟨g, off, none⟩) (c := lc) (by rw [hml]) (n := k) (by rw [hml]; omega)
        have hdr := HQ.out.row.drop (n := k) (a := some ⟨g, off, none⟩) (c := lc) (by rw [hml]) (by rw [hml]; omega)
        rw [hml] at hdr
        obtain ⟨x2, hx2⟩ : ∃ x2, (if lc = k then (some (⟨g, off, none⟩ : Addr)) else (some (⟨g, off, none⟩ : Addr)).map (·.add (k * 4))) = x2 := ⟨_, rfl⟩
        rw [hx2] at hdr
        simp only [hx2] at r2
        have HLV : Hid (∀ g', (Value.slice x2 (n - k) (lc - k)).ownBlock = some g' → g' < wq.heap.size) := hid fun g' e => (hdr.blk e).2
        have HTK := hid htk
        have HDR := hid hdr
        have HKN : Hid (k ≤ L.length) := hid (by have := HN.out; omega)
        clear htk hdr hx2 hml hb9 hbq
        go_wp2_with (first | (at_builtin; refine wpList_appendRow Try.underlying50 hi hz0 hz1 hz2 rfl (by decide) (by decide) (RowP.nil wq 0 4) HTK.out (by have h1 := HLM.out; simp only [List.length_nil, List.length_take, List.length_map]; omega) (Nat.zero_le _) rfl rfl rfl rfl ?_; intro v9 w5 hrow9 hm9 hn9; obtain ⟨a9, c9, e9, -⟩ := hrow9.sli; obtain ⟨n9, hn9'⟩ : ∃ n9, (([] : List (List Value)) ++ (L.map peerC).take k).length = n9 := ⟨_, rfl⟩; rw [hn9'] at e9; subst e9; have hb5 : Below wq.heap.size wq w5 := ⟨hm9.os, hm9.tape, hm9.output, hm9.size, fun q hq => hm9.block q hq (fun e => by cases e)⟩; have HR9 := hid hrow9; have HB5 := hid hb5; have H9 : Hid (∀ g', (Value.slice a9 n9 c9).ownBlock = some g' → wq.heap.size ≤ g' ∧ g' < w5.heap.size) := hid fun g' e => ⟨(hn9 g' e).elim (fun e => by cases e) id, (hrow9.blk e).2⟩; obtain ⟨wS, hwS⟩ : ∃ wS, w5.alloc (.cells #[.slice none 0 0, .slice none 0 0, .int .u64 0, .int .u64 0, .int .u64 0] 67) = wS := ⟨_, rfl⟩; obtain ⟨wL, hwL⟩ : ∃ wL, wS.alloc (.cells #[.int .u64 0, .slice none 0 0, .bool false] 92) = wL := ⟨_, rfl⟩; obtain ⟨wP, hwP⟩ : ∃ wP, wL.alloc (.cells #[.int .u16 p1, .int .u32 p2, .pointer (some ⟨w5.heap.size, 0, none⟩), .pointer (some ⟨wS.heap.size, 0, none⟩)] 64) = wP := ⟨_, rfl⟩; have hbP : Below wL.heap.size wL wP := (by rw [← hwP]; exact (Below.refl _ _).alloc (Nat.le_refl _) _); have HBP := hid hbP; have HC4 : Hid (∀ q u, [Value.int .u16 p1, .int .u32 p2, .pointer (some ⟨w5.heap.size, 0, none⟩), .pointer (some ⟨wS.heap.size, 0, none⟩)][q]? = some u → wP.cell? ⟨wL.heap.size, q, none⟩ = some u) := hid (by rw [← hwP]; exact cells4_new wL _ _ _ _ _); have HWS := hid hwS; have HWL := hid hwL; have hb5P : Below w5.heap.size w5 wP := by { have h1 : Below w5.heap.size w5 wS := (by rw [← hwS]; exact (Below.refl _ _).alloc (Nat.le_refl _) _); have h2 : Below wS.heap.size wS wL := (by rw [← hwL]; exact (Below.refl _ _).alloc (Nat.le_refl _) _); exact h1.trans ((h2.trans (hbP.mono h2.size)).mono h1.size) }; have HBX := hid hb5P; have k50 := cell_toB g0 hb5; have k51 := cell_toB g1 hb5; have m52 : wP.cell? ⟨x, 2, none⟩ = some (.slice (some (⟨g, off, none⟩ : Addr)) n lc) := cell_toB (cell_toB c2q hb5) hb5P; clear hrow9 hm9 hn9 hn9' hb5 hbP hb5P) | (at_builtin; refine wpList_appendRw Try.underlying50 hi hz0 hz1 hz2 rfl (by decide) (by decide) (el := [.int .u16 p1, .int .u32 p2, .pointer (some ⟨w5.heap.size, 0, none⟩), .pointer (some ⟨wS.heap.size, 0, none⟩)]) (b := wL.heap.size) (HR9.out.ext HBX.out) els4 HC4.out (by have h1 := HLM.out; simp only [List.length_append, List.length_nil, List.length_take, List.length_map]; omega) (Nat.zero_le _) rfl rfl rfl rfl ?_; intro v10 w6 hrow10 hm10 hn10; obtain ⟨a10, c10, e10, -⟩ := hrow10.sli; obtain ⟨n10, hn10'⟩ : ∃ n10, ((([] : List (List Value)) ++ (L.map peerC).take k) ++ [[Value.int .u16 p1, .int .u32 p2, .pointer (some ⟨w5.heap.size, 0, none⟩), .pointer (some ⟨wS.heap.size, 0, none⟩)]]).length = n10 := ⟨_, rfl⟩; rw [hn10'] at e10; subst e10; have HR10 := hid hrow10; have HM10 := hid hm10; have HN10 := hid hn10; have hx9 : ¬ ((Value.slice a9 n9 c9).ownBlock = some x) := (fun e => by have := (H9.out x e).1; have := HXL.out; omega); have m62 : w6.cell? ⟨x, 2, none⟩ = some (.slice (some (⟨g, off, none⟩ : Addr)) n lc) := (hm10.cell (p := ⟨x, 2, none⟩) (by exact World.block_lt_of_cell? _ _ m52) (by exact hx9)).trans m52; have HD6 := hid ((HDR.out.ext (HB5.out.trans (HBX.out.mono HB5.out.size))).mut hm10 (fun g' e e2 => by have h1 := (H9.out g' e2).1; have h2 := HLV.out g' e; omega)); clear hrow10 hm10 hn10 hn10' hx9 m52) | (at_builtin; refine wpList_appendRow Try.underlying50 hi hz0 hz1 hz2 rfl (by decide) (by decide) HR10.out HD6.out (by have h1 := HLM.out; simp only [List.length_append, List.length_nil, List.length_take, List.length_map, List.length_drop, List.length_cons]; omega) (Nat.zero_le _) rfl rfl rfl rfl ?_; intro v11 w7 hrow11 hm11 hn11; obtain ⟨a11, c11, e11, -⟩ := hrow11.sli; obtain ⟨n11, hn11'⟩ : ∃ n11, (((([] : List (List Value)) ++ (L.map peerC).take k) ++ [[Value.int .u16 p1, .int .u32 p2, .pointer (some ⟨w5.heap.size, 0, none⟩), .pointer (some ⟨wS.heap.size, 0, none⟩)]]) ++ (L.map peerC).drop k).length = n11 := ⟨_, rfl⟩; rw [hn11'] at e11; subst e11; rw [List.nil_append, ← List.map_take, ← List.map_drop] at hrow11; have hput := rmade_put (p := (p1, p2)) HQ.out HNQ.out HLN.out HOK.out HB5.out H9.out HWS.out HWL.out HBP.out HM10.out HN10.out hm11 hn11 hrow11; have m72 := hput.2.1; have f72 := hput.2.2; have HPUT := hid hput.1; clear hput hrow11 hm11 hn11 hn11' m62))
        go_ret
        have hk9 : (L.take k).length = k := by rw [List.length_take, Nat.min_eq_left HKN.out]
        exact .inr ⟨_, _, L.take k, rpNew (p1, p2) w5.heap.size wS.heap.size, L.drop k, by rw [hk9]; rfl, (RHubR.same HH0.out HN0.out HBQ.out).trans HPUT.out, rfl, .inr ⟨HNP.out, HLN.out, by rw [HAT.out], by rw [HAT.out], rfl, rfl⟩⟩
      · have HLL : Hid (ratN (p1, p2) L 0 = ratN (p1, p2) (L.drop (k + 1)) (k + 1)) := hid (by rw [HL.out, HLD.out, if_pos HQ.out])
        go_wp2_with fail
        refine wp_region_ext (w := wr) (Below.refl _ _) (by kernel_rfl) (by kernel_rfl) ?_
        repeat (go_big_quiet_step (with_reducible exact det_ext CA _))
        refine wpQuiet_nil ?_
        rintro w9 ⟨⟨_, hb9⟩, rfl⟩
        have HB9 := hid (HB.out.trans (hb9.mono HB.out.size))
        clear hb9 q0' q1' c2' g0' g1' c2 g0 g1 CA
        go_wp2_with fail
        refine ⟨⟨HB9, k + 1, by go_num, by omega, HLL⟩, ?_⟩
        simp [intOf]; omega
    · have hkn : k = n := by omega
      have t1' : decide ((k : Int) < (n : Int)) = false := decide_eq_false (by omega)
      have t2' : decide (k < n) = false := decide_eq_false hlt
      have HAT : Hid (ratN (p1, p2) L 0 = k) := hid (by rw [HL.out, List.drop_eq_nil_of_le (by rw [HN.out]; omega)]; rfl)
      have c2' := cell_extK c2
      clear hkn hlt H2 hbw
      go_wp2_with fail
      refine wp_region_ext (w := wr) (Below.refl _ _) (by kernel_rfl) (by kernel_rfl) ?_
      repeat (go_big_quiet_step (fail))
      refine wpQuiet_nil ?_
      rintro wq ⟨⟨_, hb9⟩, rfl⟩
      clear c2' c2
      have hbq := (HB2.out.trans (HB.out.mono HB2.out.size)).trans (hb9.mono (HB2.out.trans (HB.out.mono HB2.out.size)).size)
      have HBQ := hid hbq
      have HQ := hid (HH0.out.ext hbq)
      have HNQ : Hid (∀ b, N b → b < wq.heap.size) := hid fun b e => Nat.lt_of_lt_of_le (HN0.out b e) hbq.size
      have HXL : Hid (x < wq.heap.size) := hid HQ.out.box.lt
      have c2q : wq.cell? ⟨x, 2, none⟩ = some (.slice la n lc) := HQ.out.box.c2
      have g0 := cell_toB g0 hb9
      have g1 := cell_toB g1 hb9
      have hlc := HLC.out
      have r1 : ∀ W, (Instr.slice 50 (.slice la n lc) none (some (.int .i64 (k : Int))) none).run Try.prog W = .ok (.slice la k lc) W := fun W => run_toP Try.underlying50 sizePeer (by omega) hlc W
      have r2 : ∀ W, (Instr.slice 50 (.slice la n lc) (some (.int .i64 (k : Int))) none none).run Try.prog W = .ok (.slice (if lc = k then la else la.map (·.add (k * 4))) (n - k) (lc - k)) W := fun W => run_fromP (k := k) Try.underlying50 sizePeer (by omega) W
      have hml : (L.map peerC).length = n := by rw [List.length_map]; exact HN.out
      have htk := HQ.out.row.take (a := la) (c := lc) (by rw [hml]) (n := k) (by rw [hml]; omega)
      have hdr := HQ.out.row.drop (n := k) (a := la) (c := lc) (by rw [hml]) (by rw [hml]; omega)
      rw [hml] at hdr
      obtain ⟨x2, hx2⟩ : ∃ x2, (if lc = k then la else la.map (·.add (k * 4))) = x2 := ⟨_, rfl⟩
      rw [hx2] at hdr
      simp only [hx2] at r2
      have HLV : Hid (∀ g', (Value.slice x2 (n - k) (lc - k)).ownBlock = some g' → g' < wq.heap.size) := hid fun g' e => (hdr.blk e).2
      have HTK := hid htk
      have HDR := hid hdr
      have HKN : Hid (k ≤ L.length) := hid (by have := HN.out; omega)
      clear htk hdr hx2 hml hb9 hbq
      go_wp2_with (first | (at_builtin; refine wpList_appendRow Try.underlying50 hi hz0 hz1 hz2 rfl (by decide) (by decide) (RowP.nil wq 0 4) HTK.out (by have h1 := HLM.out; simp only [List.length_nil, List.length_take, List.length_map]; omega) (Nat.zero_le _) rfl rfl rfl rfl ?_; intro v9 w5 hrow9 hm9 hn9; obtain ⟨a9, c9, e9, -⟩ := hrow9.sli; obtain ⟨n9, hn9'⟩ : ∃ n9, (([] : List (List Value)) ++ (L.map peerC).take k).length = n9 := ⟨_, rfl⟩; rw [hn9'] at e9; subst e9; have hb5 : Below wq.heap.size wq w5 := ⟨hm9.os, hm9.tape, hm9.output, hm9.size, fun q hq => hm9.block q hq (fun e => by cases e)⟩; have HR9 := hid hrow9; have HB5 := hid hb5; have H9 : Hid (∀ g', (Value.slice a9 n9 c9).ownBlock = some g' → wq.heap.size ≤ g' ∧ g' < w5.heap.size) := hid fun g' e => ⟨(hn9 g' e).elim (fun e => by cases e) id, (hrow9.blk e).2⟩; obtain ⟨wS, hwS⟩ : ∃ wS, w5.alloc (.cells #[.slice none 0 0, .slice none 0 0, .int .u64 0, .int .u64 0, .int .u64 0] 67) = wS := ⟨_, rfl⟩; obtain ⟨wL, hwL⟩ : ∃ wL, wS.alloc (.cells #[.int .u64 0, .slice none 0 0, .bool false] 92) = wL := ⟨_, rfl⟩; obtain ⟨wP, hwP⟩ : ∃ wP, wL.alloc (.cells #[.int .u16 p1, .int .u32 p2, .pointer (some ⟨w5.heap.size, 0, none⟩), .pointer (some ⟨wS.heap.size, 0, none⟩)] 64) = wP := ⟨_, rfl⟩; have hbP : Below wL.heap.size wL wP := (by rw [← hwP]; exact (Below.refl _ _).alloc (Nat.le_refl _) _); have HBP := hid hbP; have HC4 : Hid (∀ q u, [Value.int .u16 p1, .int .u32 p2, .pointer (some ⟨w5.heap.size, 0, none⟩), .pointer (some ⟨wS.heap.size, 0, none⟩)][q]? = some u → wP.cell? ⟨wL.heap.size, q, none⟩ = some u) := hid (by rw [← hwP]; exact cells4_new wL _ _ _ _ _); have HWS := hid hwS; have HWL := hid hwL; have hb5P : Below w5.heap.size w5 wP := by { have h1 : Below w5.heap.size w5 wS := (by rw [← hwS]; exact (Below.refl _ _).alloc (Nat.le_refl _) _); have h2 : Below wS.heap.size wS wL := (by rw [← hwL]; exact (Below.refl _ _).alloc (Nat.le_refl _) _); exact h1.trans ((h2.trans (hbP.mono h2.size)).mono h1.size) }; have HBX := hid hb5P; have k50 := cell_toB g0 hb5; have k51 := cell_toB g1 hb5; have m52 : wP.cell? ⟨x, 2, none⟩ = some (.slice la n lc) := cell_toB (cell_toB c2q hb5) hb5P; clear hrow9 hm9 hn9 hn9' hb5 hbP hb5P) | (at_builtin; refine wpList_appendRw Try.underlying50 hi hz0 hz1 hz2 rfl (by decide) (by decide) (el := [.int .u16 p1, .int .u32 p2, .pointer (some ⟨w5.heap.size, 0, none⟩), .pointer (some ⟨wS.heap.size, 0, none⟩)]) (b := wL.heap.size) (HR9.out.ext HBX.out) els4 HC4.out (by have h1 := HLM.out; simp only [List.length_append, List.length_nil, List.length_take, List.length_map]; omega) (Nat.zero_le _) rfl rfl rfl rfl ?_; intro v10 w6 hrow10 hm10 hn10; obtain ⟨a10, c10, e10, -⟩ := hrow10.sli; obtain ⟨n10, hn10'⟩ : ∃ n10, ((([] : List (List Value)) ++ (L.map peerC).take k) ++ [[Value.int .u16 p1, .int .u32 p2, .pointer (some ⟨w5.heap.size, 0, none⟩), .pointer (some ⟨wS.heap.size, 0, none⟩)]]).length = n10 := ⟨_, rfl⟩; rw [hn10'] at e10; subst e10; have HR10 := hid hrow10; have HM10 := hid hm10; have HN10 := hid hn10; have hx9 : ¬ ((Value.slice a9 n9 c9).ownBlock = some x) := (fun e => by have := (H9.out x e).1; have := HXL.out; omega); have m62 : w6.cell? ⟨x, 2, none⟩ = some (.slice la n lc) := (hm10.cell (p := ⟨x, 2, none⟩) (by exact World.block_lt_of_cell? _ _ m52) (by exact hx9)).trans m52; have HD6 := hid ((HDR.out.ext (HB5.out.trans (HBX.out.mono HB5.out.size))).mut hm10 (fun g' e e2 => by have h1 := (H9.out g' e2).1; have h2 := HLV.out g' e; omega)); clear hrow10 hm10 hn10 hn10' hx9 m52) | (at_builtin; refine wpList_appendRow Try.underlying50 hi hz0 hz1 hz2 rfl (by decide) (by decide) HR10.out HD6.out (by have h1 := HLM.out; simp only [List.length_append, List.length_nil, List.length_take, List.length_map, List.length_drop, List.length_cons]; omega) (Nat.zero_le _) rfl rfl rfl rfl ?_; intro v11 w7 hrow11 hm11 hn11; obtain ⟨a11, c11, e11, -⟩ := hrow11.sli; obtain ⟨n11, hn11'⟩ : ∃ n11, (((([] : List (List Value)) ++ (L.map peerC).take k) ++ [[Value.int .u16 p1, .int .u32 p2, .pointer (some ⟨w5.heap.size, 0, none⟩), .pointer (some ⟨wS.heap.size, 0, none⟩)]]) ++ (L.map peerC).drop k).length = n11 := ⟨_, rfl⟩; rw [hn11'] at e11; subst e11; rw [List.nil_append, ← List.map_take, ← List.map_drop] at hrow11; have hput := rmade_put (p := (p1, p2)) HQ.out HNQ.out HLN.out HOK.out HB5.out H9.out HWS.out HWL.out HBP.out HM10.out HN10.out hm11 hn11 hrow11; have m72 := hput.2.1; have f72 := hput.2.2; have HPUT := hid hput.1; clear hput hrow11 hm11 hn11 hn11' m62))
      go_ret
      have hk9 : (L.take k).length = k := by rw [List.length_take, Nat.min_eq_left HKN.out]
      exact .inr ⟨_, _, L.take k, rpNew (p1, p2) w5.heap.size wS.heap.size, L.drop k, by rw [hk9]; rfl, (RHubR.same HH0.out HN0.out HBQ.out).trans HPUT.out, rfl, .inr ⟨HNP.out, HLN.out, by rw [HAT.out], by rw [HAT.out], rfl, rfl⟩⟩
end Go.Proofs.Ytidohmpnefcpcaa

