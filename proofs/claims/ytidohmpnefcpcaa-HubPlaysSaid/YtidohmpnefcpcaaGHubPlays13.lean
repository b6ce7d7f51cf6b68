/- Parts of the proof: KZ. -/
import Derived.Test.YtidohmpnefcpcaaKL
namespace Go.Proofs.Ytidohmpnefcpcaa
open Go.RowKit
/-! ### the reference's hub, in the heap; find -/
structure RPeer where
  p : Pid
  sb : Nat
  lb : Nat
  iv : Value
  tv : Value
  hv : Value
  s : RSnd
  k : RLnk
def peerC (y : RPeer) : List Value := [.int .u16 y.p.1, .int .u32 y.p.2, .pointer (some ⟨y.sb, 0, none⟩), .pointer (some ⟨y.lb, 0, none⟩)]
def fpY (y : RPeer) (b : Nat) : Prop := fpT y.sb y.iv y.tv b ∨ fpK y.lb y.hv b
structure PeerIs (w : World) (N : Nat → Prop) (y : RPeer) : Prop where
  s : RSndIs w N y.sb y.iv y.tv y.s
  k : RLnkIs w N y.lb y.hv y.k
  dis : ∀ b, fpT y.sb y.iv y.tv b → ¬ fpK y.lb y.hv b
  ok : ok y.p
def fpX (x : Nat) (lv : Value) (L : List RPeer) (b : Nat) : Prop := b = x ∨ lv.ownBlock = some b ∨ ∃ y ∈ L, fpY y b
structure RHubIs (w : World) (N : Nat → Prop) (x : Nat) (sf : Pid) (lv : Value) (L : List RPeer) : Prop where
  box : Bx3 w x (.int .u16 sf.1) (.int .u32 sf.2) lv
  row : RowP w 0 4 lv (L.map peerC)
  xn : N x
  ln : ∀ g, lv.ownBlock = some g → N g ∧ g ≠ x
  pr : ∀ y ∈ L, PeerIs w N y
  out : ∀ y ∈ L, ∀ b, fpY y b → b ≠ x ∧ lv.ownBlock ≠ some b
  dis : L.Pairwise fun y z => ∀ b, fpY y b → ¬ fpY z b
  lim : L.length ≤ 48
section
variable {w w' : World} {N N' G : Nat → Prop} {x : Nat} {sf : Pid} {lv lv' : Value} {L L' : List RPeer} {y : RPeer}
theorem PeerIs.fp (h : PeerIs w N y) : ∀ b, fpY y b → N b := fun b e => e.elim (h.s.fp b) (h.k.fp b)
theorem PeerIs.fplt (h : PeerIs w N y) : ∀ b, fpY y b → b < w.heap.size := fun b e => e.elim (h.s.fplt b) (h.k.fplt b)
theorem PeerIs.mut (h : PeerIs w N y) (hm : Mut G w w') (hG : ∀ b, b < w.heap.size → G b → N b) (hf : ∀ b, fpY y b → ¬ G b) : PeerIs w' N y :=
  ⟨h.s.mut hm hG fun b e => hf b (.inl e), h.k.mut hm hG fun b e => hf b (.inr e), h.dis, h.ok⟩
theorem PeerIs.less (h : PeerIs w N y) (hf : ∀ b, fpY y b → N' b) (h2 : ∀ b, N' b → N b ∨ w.heap.size ≤ b) : PeerIs w N' y :=
  ⟨h.s.less (fun b e => hf b (.inl e)) h2, h.k.less (fun b e => hf b (.inr e)) h2, h.dis, h.ok⟩
theorem RHubIs.fp (H : RHubIs w N x sf lv L) : ∀ b, fpX x lv L b → N b := fun b e => by
  rcases e with e | e | ⟨y, hy, e⟩
  · rw [e]; exact H.xn
  · exact (H.ln b e).1
  · exact (H.pr y hy).fp b e
theorem RHubIs.fplt (H : RHubIs w N x sf lv L) : ∀ b, fpX x lv L b → b < w.heap.size := fun b e => by
  rcases e with e | e | ⟨y, hy, e⟩
  · rw [e]; exact H.box.lt
  · exact (H.row.blk e).2
  · exact (H.pr y hy).fplt b e
theorem RHubIs.mut (H : RHubIs w N x sf lv L) (hm : Mut G w w') (hG : ∀ b, b < w.heap.size → G b → N b) (hf : ∀ b, fpX x lv L b → ¬ G b) : RHubIs w' N x sf lv L :=
  ⟨H.box.mut hm (hf _ (.inl rfl)), H.row.mut hm fun g e => hf g (.inr (.inl e)), H.xn, H.ln, fun y hy => (H.pr y hy).mut hm hG fun b e => hf b (.inr (.inr ⟨y, hy, e⟩)), H.out, H.dis, H.lim⟩
theorem RHubIs.ext (H : RHubIs w N x sf lv L) (hb : Below w.heap.size w w') : RHubIs w' N x sf lv L :=
  H.mut (Mut.of_below (F := fun _ => False) hb) (fun _ _ e => e.elim) fun _ _ e => e
theorem RHubIs.less (H : RHubIs w N x sf lv L) (hf : ∀ b, fpX x lv L b → N' b) (h2 : ∀ b, N' b → N b ∨ w.heap.size ≤ b) : RHubIs w N' x sf lv L :=
  ⟨H.box, H.row, hf _ (.inl rfl), fun g e => ⟨hf g (.inr (.inl e)), (H.ln g e).2⟩, fun y hy => (H.pr y hy).less (fun b e => hf b (.inr (.inr ⟨y, hy, e⟩))) h2, H.out, H.dis, H.lim⟩
/-- one peer was turned: its boxes are the same -/
theorem RHubIs.turn {A B : List RPeer} {z : RPeer} (H : RHubIs w N x sf lv (A ++ y :: B)) (hm : Mut (fpY y) w w') (hNN : ∀ b, N b → N' b) (hN : ∀ b, N' b → N b ∨ w.heap.size ≤ b) (hz : PeerIs w' N' z) (hc : peerC z = peerC y) (hfz : ∀ b, fpY z b → fpY y b ∨ w.heap.size ≤ b) : RHubIs w' N' x sf lv (A ++ z :: B) := by
  have hy : y ∈ A ++ y :: B := by simp
  have hd := List.pairwise_append.1 H.dis
  have hd2 := List.pairwise_cons.1 hd.2.1
  have hmem : ∀ u, u ∈ A ∨ u ∈ B → u ∈ A ++ y :: B := fun u hu => by
    rcases hu with hu | hu
    · simp [hu]
    · simp [hu]
  have hoth : ∀ u, u ∈ A ∨ u ∈ B → ∀ b, fpY u b → ¬ fpY y b := fun u hu b e e2 => by
    rcases hu with hu | hu
    · exact hd.2.2 u hu y (by simp) b e e2
    · exact hd2.1 u hu b e2 e
  have hsplit : ∀ u, u ∈ A ++ z :: B → u = z ∨ (u ∈ A ∨ u ∈ B) := fun u hu => by
    simp only [List.mem_append, List.mem_cons] at hu
    rcases hu with hu | hu | hu
    · exact .inr (.inl hu)
    · exact .inl hu
    · exact .inr (.inr hu)
  have hnew : ∀ u, u ∈ A ∨ u ∈ B → ∀ b, fpY u b → ¬ fpY z b := fun u hu b e e2 => by
    rcases hfz b e2 with e3 | e3
    · exact hoth u hu b e e3
    · have := (H.pr u (hmem u hu)).fplt b e; omega
  have hG : ∀ b, b < w.heap.size → fpY y b → N' b := fun b _ e => hNN b ((H.pr y hy).fp b e)
  have hxl := H.box.lt
  refine ⟨H.box.mut hm fun e => (H.out y hy x e).1 rfl, ?_, hNN _ H.xn, fun g e => ⟨hNN g (H.ln g e).1, (H.ln g e).2⟩, fun u hu => ?_, fun u hu b e => ?_, ?_, by have := H.lim; simpa using this⟩
  · have h1 := H.row.mut hm fun g e e2 => (H.out y hy g e2).2 e
    rw [List.map_append, List.map_cons] at h1 ⊢
    rw [hc]; exact h1
  · rcases hsplit u hu with rfl | hu
    · exact hz
    · exact ((H.pr u (hmem u hu)).less (N' := N') (fun b e => hNN b ((H.pr u (hmem u hu)).fp b e)) hN).mut hm hG (hoth u hu)
  · rcases hsplit u hu with rfl | hu
    · rcases hfz b e with e | e
      · exact H.out y hy b e
      · exact ⟨by omega, fun e2 => by have := (H.row.blk e2).2; omega⟩
    · exact H.out u (hmem u hu) b e
  · refine List.pairwise_append.2 ⟨hd.1, List.pairwise_cons.2 ⟨fun u hu b e e2 => hnew u (.inr hu) b e2 e, hd2.2⟩, fun u hu v hv b e e2 => ?_⟩
    rcases List.mem_cons.1 hv with rfl | hv
    · exact hnew u (.inl hu) b e e2
    · exact hd.2.2 u hu v (by simp [hv]) b e e2
/-- what a call of the reference's hub leaves -/
structure RHubR (w w' : World) (N N' : Nat → Prop) (x : Nat) (sf : Pid) (lv : Value) (L : List RPeer) (lv' : Value) (L' : List RPeer) : Prop where
  is : RHubIs w' N' x sf lv' L'
  up : ∀ b, N b → N' b
  nw : ∀ b, N' b → N b ∨ w.heap.size ≤ b
  lt : ∀ b, N' b → b < w'.heap.size
  mt : Mut (fpX x lv L) w w'
  fq : ∀ b, fpX x lv' L' b → fpX x lv L b ∨ w.heap.size ≤ b
theorem RHubR.same (H : RHubIs w N x sf lv L) (hlt : ∀ b, N b → b < w.heap.size) (hb : Below w.heap.size w w') : RHubR w w' N N x sf lv L lv L :=
  ⟨H.ext hb, fun _ e => e, fun _ e => .inl e, fun b e => Nat.lt_of_lt_of_le (hlt b e) hb.size, Mut.of_below hb, fun _ e => .inl e⟩
theorem RHubR.trans {w3 : World} {N3 : Nat → Prop} {lv3 : Value} {L3 : List RPeer} (A : RHubR w w' N N' x sf lv L lv' L') (B : RHubR w' w3 N' N3 x sf lv' L' lv3 L3) : RHubR w w3 N N3 x sf lv L lv3 L3 :=
  have hz := A.mt.size
  ⟨B.is, fun b e => B.up b (A.up b e), fun b e => (B.nw b e).elim (fun e => A.nw b e) fun e => .inr (by omega), B.lt,
   A.mt.transG B.mt fun b hb e => (A.fq b e).elim id fun e => (by omega),
   fun b e => (B.fq b e).elim (fun e => A.fq b e) fun e => .inr (by omega)⟩
theorem RHubR.turn {A B : List RPeer} {z : RPeer} (H : RHubIs w N x sf lv (A ++ y :: B)) (hlt : ∀ b, N b → b < w.heap.size) (hm : Mut (fpY y) w w') (hz : PeerIs w' (fun b => N b ∨ fpY z b) z) (hc : peerC z = peerC y) (hfz : ∀ b, fpY z b → fpY y b ∨ w.heap.size ≤ b) : RHubR w w' N (fun b => N b ∨ fpY z b) x sf lv (A ++ y :: B) lv (A ++ z :: B) :=
  ⟨H.turn hm (fun b e => .inl e) (fun b e => e.elim .inl fun e => (hfz b e).imp (fun e => (H.pr y (by simp)).fp b e) id) hz hc hfz, fun b e => .inl e, fun b e => e.elim .inl fun e => (hfz b e).imp (fun e => (H.pr y (by simp)).fp b e) id,
   fun b e => e.elim (fun e => Nat.lt_of_lt_of_le (hlt b e) hm.size) (hz.fplt b), hm.mono fun b _ e => .inr (.inr ⟨y, by simp, e⟩), fun b e => by
    rcases e with e | e | ⟨u, hu, e⟩
    · exact .inl (.inl e)
    · exact .inl (.inr (.inl e))
    · simp only [List.mem_append, List.mem_cons] at hu
      rcases hu with hu | rfl | hu
      · exact .inl (.inr (.inr ⟨u, by simp [hu], e⟩))
      · rcases hfz b e with e | e
        · exact .inl (.inr (.inr ⟨y, by simp, e⟩))
        · exact .inr e
      · exact .inl (.inr (.inr ⟨u, by simp [hu], e⟩))⟩
theorem RHubIs.lit (H : RHubIs w N x sf lv L) : ∃ a c, lv = .slice a L.length c ∧ L.length ≤ c := by
  obtain ⟨a, c, e, hc⟩ := H.row.sli
  rw [List.length_map] at e hc
  exact ⟨a, c, e, hc⟩
theorem RHubIs.peer (H : RHubIs w N x sf lv L) {i : Nat} (hi : L[i]? = some y) :
    ∃ g off cap, lv = .slice (some ⟨g, off, none⟩) L.length cap ∧ g < w.heap.size ∧ w.cell? ⟨g, off + i * 4, none⟩ = some (.int .u16 y.p.1) ∧ w.cell? ⟨g, off + i * 4 + 1, none⟩ = some (.int .u32 y.p.2) ∧ w.cell? ⟨g, off + i * 4 + 2, none⟩ = some (.pointer (some ⟨y.sb, 0, none⟩)) ∧ w.cell? ⟨g, off + i * 4 + 3, none⟩ = some (.pointer (some ⟨y.lb, 0, none⟩)) := by
  obtain ⟨g, off, cap, e, hg, hc⟩ := H.row.at (i := i) (x := peerC y) (by rw [List.getElem?_map, hi]; rfl)
  rw [List.length_map] at e
  exact ⟨g, off, cap, e, hg, hc 0 _ rfl, hc 1 _ rfl, hc 2 _ rfl, hc 3 _ rfl⟩
end
/-- whose place it is -/
def rposN (p : Pid) : List RPeer → Nat → Option Nat
  | [], _ => none
  | y :: l, i => if y.p = p then some i else rposN p l (i + 1)
def rposI (p : Pid) (L : List RPeer) : Int := match rposN p L 0 with
  | some i => (i : Int)
  | none => -1
theorem rposN_some {p : Pid} : ∀ {L : List RPeer} {i j : Nat}, rposN p L i = some j → ∃ A y B, L = A ++ y :: B ∧ y.p = p ∧ j = i + A.length ∧ p ∉ A.map (·.p)
  | [], _, _, h => by simp [rposN] at h
  | y :: l, i, j, h => by
    simp only [rposN] at h
    split at h
    · next hy =>
      cases h
      exact ⟨[], y, l, rfl, hy, rfl, by simp⟩
    · next hy =>
      obtain ⟨A, z, B, e1, e2, e3, e4⟩ := rposN_some h
      exact ⟨y :: A, z, B, by rw [e1]; rfl, e2, by simp; omega, by simp only [List.map_cons, List.mem_cons, not_or]; exact ⟨fun e => hy e.symm, e4⟩⟩
theorem rposN_none {p : Pid} : ∀ {L : List RPeer} {i : Nat}, rposN p L i = none → p ∉ L.map (·.p)
  | [], _, _ => by simp
  | y :: l, i, h => by
    simp only [rposN] at h
    split at h
    · cases h
    · next hy => simp only [List.map_cons, List.mem_cons, not_or]; exact ⟨fun e => hy e.symm, rposN_none h⟩
theorem rposN_drop {p : Pid} {L : List RPeer} {k : Nat} {y : RPeer} (hy : L[k]? = some y) : rposN p (L.drop k) k = if y.p = p then some k else rposN p (L.drop (k + 1)) (k + 1) := by
  have hlt := (List.getElem?_eq_some_iff.1 hy).1
  rw [List.drop_eq_getElem_cons hlt, (List.getElem?_eq_some_iff.1 hy).2]
  rfl
set_option maxRecDepth 100000 in
set_option maxHeartbeats 3200000 in
theorem rhfind_any {w : World} {N : Nat → Prop} {x : Nat} {sf : Pid} {lv : Value} {L : List RPeer} (H : RHubIs w N x sf lv L) (p1 p2 : Int) :
    Calls Try.prog 43 #[.pointer (some ⟨x, 0, none⟩), .agg #[.int .u16 p1, .int .u32 p2]] w fun e w' => e = .returned (.int .i64 (rposI (p1, p2) L)) ∧ Below w.heap.size w w' := by
  obtain ⟨W1, hW1⟩ : ∃ W1, w.alloc (.cells #[.int .u16 p1, .int .u32 p2] 30) = W1 := ⟨_, rfl⟩
  have hb1 : Below w.heap.size w W1 := by rw [← hW1]; exact (Below.refl _ _).alloc (Nat.le_refl _) _
  have d0 : W1.cell? ⟨w.heap.size, 0, none⟩ = some (.int .u16 p1) := by rw [← hW1]; simp
  have d1 : W1.cell? ⟨w.heap.size, 1, none⟩ = some (.int .u32 p2) := by rw [← hW1]; simp
  obtain ⟨a, c, hlit, -⟩ := H.lit
  obtain ⟨n, hn⟩ : ∃ n, L.length = n := ⟨_, rfl⟩
  rw [hn] at hlit
  subst hlit
  have HH := hid (H.ext hb1)
  have HN := hid hn
  have hn48 : n ≤ 48 := by have := H.lim; omega
  have HB1 := hid hb1
  have HD := hid (And.intro d0 d1)
  clear H hn hb1 d0 d1
  go_enter Try.func43, Try.ntmps43
  go_wp2_with fail
  go_loopw [4, 5] (fun rs kv wr => rs = .int .i64 0 ∧ Hid (Below W1.heap.size W1 wr) ∧ ∃ k : Nat, kv = .int .i64 k ∧ k ≤ n ∧ Hid (rposN (p1, p2) L 0 = rposN (p1, p2) (L.drop k) k)) (fun _ kv _ => n - (intOf kv).toNat)
  case atStart => exact ⟨rfl, hid (Below.refl _ _), 0, rfl, Nat.zero_le _, hid rfl⟩
  case round =>
    obtain ⟨rfl, HB, k, rfl, hk, HL⟩ := hrel
    rename World => wr
    have H2 := HH.out.ext HB.out
    have c2 := H2.box.c2
    by_cases hlt : k < n
    · have t1 : decide ((k : Int) < (n : Int)) = true := decide_eq_true (by omega)
      have t2 : decide (k < n) = true := decide_eq_true hlt
      obtain ⟨y, hy⟩ : ∃ y, L[k]? = some y := ⟨_, List.getElem?_eq_getElem (by rw [HN.out]; exact hlt)⟩
      obtain ⟨g, off, cap, e, hg, q0, q1, -, -⟩ := H2.peer hy
      injection e with e1 e2 e3
      subst e1
      clear e2 e3
      have HLD := hid (rposN_drop (p := (p1, p2)) hy)
      obtain ⟨⟨y1, y2⟩, ysb, ylb, yiv, ytv, yhv, ys, yk⟩ := y
      have he := fun w => eql_pid y1 y2 p1 p2 w
      have q0' := cell_extK q0
      have q1' := cell_extK q1
      have c2' := cell_extK c2
      have g0' := cell_extK (cell_toB HD.out.1 HB.out)
      have g1' := cell_extK (cell_toB HD.out.2 HB.out)
      clear hy hg q0 q1
      by_cases hpq : (y1, y2) = (p1, p2)
      · simp only [hpq, decide_true] at he
        have HR : Hid (rposI (p1, p2) L = (k : Int)) := hid (by unfold rposI; rw [HL.out, HLD.out, if_pos hpq])
        clear hpq H2
        go_wp2_with fail
        refine wp_region_ext (w := wr) (Below.refl _ _) (by kernel_rfl) (by kernel_rfl) ?_
        repeat (go_big_quiet_step (fail))
        refine wpQuiet_nil ?_
        rintro w9 ⟨⟨_, hb9⟩, rfl⟩
        go_wp2_with fail
        go_ret
        have h1 := HB1.out.trans (HB.out.mono HB1.out.size)
        exact ⟨by rw [HR.out]; rfl, h1.trans (hb9.mono h1.size)⟩
      · simp only [decide_eq_false hpq] at he
        have HLN : Hid (rposN (p1, p2) L 0 = rposN (p1, p2) (L.drop (k + 1)) (k + 1)) := hid (by rw [HL.out, HLD.out, if_neg hpq])
        clear hpq H2
        go_wp2_with fail
        refine wp_region_ext (w := wr) (Below.refl _ _) (by kernel_rfl) (by kernel_rfl) ?_
        repeat (go_big_quiet_step (fail))
        refine wpQuiet_nil ?_
        rintro w9 ⟨⟨_, hb9⟩, rfl⟩
        have HB9 := hid (HB.out.trans (hb9.mono HB.out.size))
        clear hb9
        go_wp2_with fail
        refine ⟨⟨rfl, HB9, k + 1, by go_num, by omega, HLN⟩, ?_⟩
        simp [intOf]; omega
    · have hkn : k = n := by omega
      have t1 : decide ((k : Int) < (n : Int)) = false := decide_eq_false (by omega)
      have t2 : decide (k < n) = false := decide_eq_false hlt
      have HR : Hid (rposI (p1, p2) L = -1) := hid (by unfold rposI; rw [HL.out, List.drop_eq_nil_of_le (by rw [HN.out]; omega)]; rfl)
      clear H2
      go_wp2_with fail
      go_ret
      exact ⟨by rw [HR.out]; rfl, HB1.out.trans (HB.out.mono HB1.out.size)⟩
end Go.Proofs.Ytidohmpnefcpcaa

