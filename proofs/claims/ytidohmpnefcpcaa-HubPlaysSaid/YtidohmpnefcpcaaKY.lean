/- Parts of the proof: KY. -/
import Derived.Test.YtidohmpnefcpcaaGHubPlays9
namespace Go.Proofs.Ytidohmpnefcpcaa
open Go.RowKit
/-! ### the reference's link: Take -/
theorem wpList_appendRow {w : World} {ops : Array Oper} {rest : List Oper} {o : Oper} {a : Go.Act} {Q : Exit → Go.Act → World → Prop} {s x : Operand} {base b2 k bytes : Nat} {T E : TypeId} {i0 : TypeInfo} {z v sv : Value} {xs ys : List (List Value)}
    (ht : Try.prog.underlying T = some (.slice E)) (hi : Try.prog.info? E = some i0) (hz0 : i0.zero = some z) (hz1 : i0.size = k) (hz2 : i0.bytes = bytes) (hzs : z.cells.size = k) (hk : 0 < k) (hbt : bytes ≤ 1000)
    (hown : RowP w base k v xs) (hs' : RowP w b2 k sv ys) (hl : xs.length + ys.length ≤ 1000000) (hbase : base ≤ w.heap.size) (hg : o.guard = none)
    (ho : o.op = .call { callee := .builtin .append, args := #[s, x], argTypes := #[T, T] }) (hs : a.eval s = v) (hx : a.eval x = sv)
    (h : ∀ v' w', RowP w' base k v' (xs ++ ys) → Mut (fun g => v.ownBlock = some g) w w' → (∀ g, v'.ownBlock = some g → v.ownBlock = some g ∨ w.heap.size ≤ g) → wpList Try.prog ops Q rest (a.put o.dst v') w') : wpList Try.prog ops Q (o :: rest) a w := by
  obtain ⟨v', w', hr, h2, h3, h4⟩ := hown.appendRow T o.type E i0 z bytes ht hi hz0 hz1 hz2 hzs hk hs' hl hbt hbase
  exact Lib.wpList_append_run w hg s x T T ho _ _ hs hx v' w' hr (h v' w' h2 h3 h4)
/-- an item more is held -/
theorem rtake_item {wA W1 w3 w4 w5 : World} {N : Nat → Prop} {s : Nat} {iv v5 u : Value} {d : RLnk} {bs : List Nat} {q : Nat} {xs : List (List Value)} (h : RLnkIs wA N s iv d) (hN : ∀ b, N b → b < wA.heap.size) (h1 : Below wA.heap.size wA W1) (hb3 : Below W1.heap.size W1 w3) (hu : OwnB w3 W1.heap.size u bs) (hx : ∀ x ∈ bs, x < 256) (hb4 : Below w3.heap.size w3 w4) (hxs : ElsAt wA N xs (d.held.map itemC)) (hrow : RowP w5 0 2 v5 (xs ++ [[.int .u64 q, u]])) (hm : Mut (fun g => iv.ownBlock = some g) w4 w5) (hn : ∀ g, v5.ownBlock = some g → iv.ownBlock = some g ∨ w4.heap.size ≤ g) (hl : d.held.length < 999990) (hq : q < 18446744073709551616) :
    (RLnkIs (w5.setCell ⟨s, 1, none⟩ v5) (fun b => N b ∨ v5.ownBlock = some b) s v5 { d with held := d.held ++ [(q, bs)] } ∧ Mut (fpK s iv) wA (w5.setCell ⟨s, 1, none⟩ v5)) ∧ w5.cell? ⟨s, 1, none⟩ = some iv ∧ w5.frozen? ⟨s, 1, none⟩ = false := by
  have hs1 := h1.size
  have hs3 := hb3.size
  have hs4 := hb4.size
  have hsl := h.box.lt
  have hbw : Below wA.heap.size wA w4 := h1.trans ((hb3.mono hs1).trans (hb4.mono (by omega)))
  have hmw : Mut (fun g => iv.ownBlock = some g) wA w5 := (Mut.of_below hbw).trans ⟨hm.os, hm.tape, hm.output, hm.size, hm.block⟩
  have hiu : ItemAt w3 (fun b => N b ∨ v5.ownBlock = some b) u bs := ItemAt.own hu hx fun b g1 g2 e => by
    rcases e with e | e
    · have := hN b e; omega
    · rcases hn b e with e | e
      · have := hN b (h.nh b e).1; omega
      · omega
  have hi5 : ItemAt w5 (fun b => N b ∨ v5.ownBlock = some b) u bs := (hiu.ext1 hb4).mut hm fun b _ e => .inl (h.nh b e).1
  have hx5 : ElsAt w5 (fun b => N b ∨ v5.ownBlock = some b) xs (d.held.map itemC) := (hxs.grow (N' := fun b => N b ∨ v5.ownBlock = some b) fun b e => by
    rcases e with e | e
    · exact .inl e
    · rcases hn b e with e | e
      · exact .inl (h.nh b e).1
      · exact .inr (by omega)).mut hmw fun b _ e => .inl (h.nh b e).1
  have hels : ElsAt w5 (fun b => N b ∨ v5.ownBlock = some b) (xs ++ [[.int .u64 q, u]]) ((d.held ++ [(q, bs)]).map itemC) := by
    rw [List.map_append]
    exact hx5.snoc (q := [.int .u64 q]) hi5
  have hR := h.held' (N' := fun b => N b ∨ v5.ownBlock = some b) hmw (fun e => (h.nh s e).2 rfl) hrow hels (.inl h.nl) (fun g e => ⟨.inr e, by
    rcases hn g e with e | e
    · exact (h.nh g e).2
    · omega⟩) (fun p hp => by
    rcases List.mem_append.1 hp with hp | hp
    · exact h.bq p hp
    · rw [List.mem_singleton.1 hp]; exact hq) (by simp; omega)
  exact ⟨⟨hR.1, (hmw.mono fun k _ e => .inr e).trans (mut1.mono fun k _ (e : k = s) => .inl e)⟩, hR.2.1, hR.2.2⟩
theorem lookI_get {α β : Type} [DecidableEq α] {x : α} {v : β} : ∀ {L : List (α × β)} {i j : Nat}, lookI x L i = some (j, v) → L[j - i]? = some (x, v)
  | [], _, _, h => by simp [lookI] at h
  | p :: l, i, j, h => by
    simp only [lookI] at h
    split at h
    · next hx =>
      simp only [Option.some.injEq, Prod.mk.injEq] at h
      obtain ⟨rfl, rfl⟩ := h
      simp [hx]
    · have h1 := lookI_some h
      have h2 := lookI_get h
      have e : j - i = (j - (i + 1)) + 1 := by omega
      rw [e, List.getElem?_cons_succ]
      exact h2
def rtakeD (d : RLnk) : LnkD := ⟨sndNew, d.upto, d.held, d.owes⟩
/-- what Take leaves -/
structure RTakeR (w w' : World) (N : Nat → Prop) (l : Nat) (hv : Value) (ls : List (List Nat)) (D : RLnk) (v : Value) (xs : List (List Value)) (hv' : Value) : Prop where
  row : OwnK w' w.heap.size 32 1 v xs
  els : ElsAt w' (fun b => N b ∨ hv'.ownBlock = some b ∨ v.ownBlock = some b) xs (ls.map fun b => ([], b))
  is : RLnkIs w' (fun b => N b ∨ hv'.ownBlock = some b) l hv' D
  new : ∀ g, hv'.ownBlock = some g → hv.ownBlock = some g ∨ w.heap.size ≤ g
  nv : ∀ g, hv'.ownBlock = some g → v.ownBlock ≠ some g
  mt : Mut (fpK l hv) w w'
theorem infoBsl : (Try.prog.info? 32).map (fun i => (i.zero, i.size, i.bytes)) = some (some (.slice none 0 0), 1, 24) := by kernel_rfl
/-- Take under way -/
structure RTakeI (w wr : World) (N : Nat → Prop) (l : Nat) (hv : Value) (T : List (List Nat) × Nat × List (Nat × List Nat)) (F : Nat) (v : Value) (xs : List (List Value)) (ls : List (List Nat)) (hv' : Value) (u : Nat) (H : List (Nat × List Nat)) (f : Nat) : Prop where
  row : OwnK wr w.heap.size 32 1 v xs
  els : ElsAt wr (fun b => N b ∨ w.heap.size ≤ b) xs (ls.map fun b => ([], b))
  is : RLnkIs wr (fun b => N b ∨ w.heap.size ≤ b) l hv' ⟨u, H, true⟩
  new : ∀ g, hv'.ownBlock = some g → hv.ownBlock = some g ∨ w.heap.size ≤ g
  nv : ∀ g, hv'.ownBlock = some g → v.ownBlock ≠ some g
  mt : Mut (fpK l hv) w wr
  lo : ∀ b, fpK l hv b → b < w.heap.size
  eq : T = (ls ++ (takeGo f u H).1, (takeGo f u H).2)
  fl : f + xs.length = F
  hf : H.length < f
  ub : u + H.length ≤ 4611686018427387905
  fb : F ≤ 999995
section
variable {w wr wC w4 w5 w6 : World} {N : Nat → Prop} {l u f F j : Nat} {hv hv' v v4 v9 v10 x : Value} {T : List (List Nat) × Nat × List (Nat × List Nat)} {xs : List (List Value)} {ls : List (List Nat)} {H : List (Nat × List Nat)} {b : List Nat}
/-- the text went into the row -/
theorem rtake_out (I : RTakeI w wr N l hv T F v xs ls hv' u H f) (hx : ItemAt wr (fun b => N b ∨ w.heap.size ≤ b) x b) (hb : Below wr.heap.size wr wC) (_hrow : OwnK w4 w.heap.size 32 1 v4 (xs ++ [[x]])) (hm : Mut (fun g => v.ownBlock = some g) wC w4) (hn : ∀ g, v4.ownBlock = some g → v.ownBlock = some g ∨ wC.heap.size ≤ g) :
    ElsAt w4 (fun b => N b ∨ w.heap.size ≤ b) (xs ++ [[x]]) ((ls ++ [b]).map fun b => ([], b)) ∧ RLnkIs w4 (fun b => N b ∨ w.heap.size ≤ b) l hv' ⟨u, H, true⟩ ∧ (∀ g, hv'.ownBlock = some g → v4.ownBlock ≠ some g) ∧ Mut (fpK l hv) w w4 := by
  have hz := hb.size
  have hzr := I.mt.size
  have hmr : Mut (fun g => v.ownBlock = some g) wr w4 := (Mut.of_below hb).trans ⟨hm.os, hm.tape, hm.output, hm.size, hm.block⟩
  have hG : ∀ b, b < wr.heap.size → v.ownBlock = some b → N b ∨ w.heap.size ≤ b := fun b _ e => .inr (I.row.blk e).1
  refine ⟨?_, I.is.mut hmr hG fun b e e2 => ?_, fun g e e2 => ?_, I.mt.transG hmr fun b hb2 e => ?_⟩
  · rw [List.map_append]
    exact (I.els.mut hmr hG).snoc (q := []) (hx.mut hmr hG)
  · rcases e with e | e
    · have h1 := (I.row.blk e2).1
      have h2 := I.lo b (.inl e)
      omega
    · exact I.nv b e e2
  · rcases hn g e2 with e2 | e2
    · exact I.nv g e e2
    · have := I.is.fplt g (.inr e); omega
  · have := (I.row.blk e).1; omega
/-- the item is let go: both ends of the row joined anew, and the count -/
theorem rtake_cut (I : RTakeI w wr N l hv T F v xs ls hv' u H f) (he : lookI (u + 1) H 0 = some (j, b)) (hrow4 : OwnK w4 w.heap.size 32 1 v4 (xs ++ [[x]])) (hels : ElsAt w4 (fun b => N b ∨ w.heap.size ≤ b) (xs ++ [[x]]) ((ls ++ [b]).map fun b => ([], b))) (his : RLnkIs w4 (fun b => N b ∨ w.heap.size ≤ b) l hv' ⟨u, H, true⟩) (hmt : Mut (fpK l hv) w w4)
    {xh : List (List Value)} (hxe : ElsAt w4 (fun b => N b ∨ w.heap.size ≤ b) xh (H.map itemC)) (hm5 : Below w4.heap.size w4 w5) (h9 : ∀ g, v9.ownBlock = some g → w4.heap.size ≤ g) (hm6 : Mut (fun g => v9.ownBlock = some g) w5 w6) (h10 : ∀ g, v10.ownBlock = some g → v9.ownBlock = some g ∨ w5.heap.size ≤ g) (hrow : RowP w6 0 2 v10 (xh.take j ++ xh.drop (j + 1))) (hu : u + 1 < 18446744073709551616) :
    ∃ w7, w7 = w6.setCell ⟨l, 1, none⟩ v10 ∧ w6.cell? ⟨l, 1, none⟩ = some hv' ∧ w6.frozen? ⟨l, 1, none⟩ = false ∧ w7.cell? ⟨l, 0, none⟩ = some (.int .u64 u) ∧ w7.frozen? ⟨l, 0, none⟩ = false ∧
      ∃ f', RTakeI w (w7.setCell ⟨l, 0, none⟩ (.int .u64 (u + 1 : Nat))) N l hv T F v4 (xs ++ [[x]]) (ls ++ [b]) v10 (u + 1) (del (u + 1) H) f' := by
  have hz4 := hmt.size
  have hz5 := hm5.size
  have hm46 : Mut (fun g => v9.ownBlock = some g) w4 w6 := (Mut.of_below hm5).trans hm6
  have hls := lookI_some he
  have hjl : j < H.length := by have := hls.2.1; omega
  have hdel : del (u + 1) H = H.eraseIdx j := by rw [del_eq he, Nat.sub_zero]
  have hxl : xh.length = H.length := by have := hxe.1; simpa using this
  have hll : l < w.heap.size := I.lo l (.inl rfl)
  have h10w : ∀ g, v10.ownBlock = some g → w4.heap.size ≤ g := fun g e => (h10 g e).elim (h9 g) fun e => by omega
  have hxe6 : ElsAt w6 (fun b => N b ∨ w.heap.size ≤ b) (xh.take j ++ xh.drop (j + 1)) ((H.eraseIdx j).map itemC) := by
    have h1 := hxe.mut hm46 fun b _ e => .inr (by have := h9 b e; omega)
    refine ⟨by simp [List.length_eraseIdx, hjl]; omega, fun k hk => ?_⟩
    rw [List.length_map, List.length_eraseIdx, if_pos hjl] at hk
    by_cases hkj : k < j
    · obtain ⟨y, hy1, hy2⟩ := h1.2 k (by rw [List.length_map]; omega)
      refine ⟨y, ?_, ?_⟩
      · rw [List.getElem?_append_left (by rw [List.length_take]; omega), List.getElem?_take, if_pos hkj, hy1]
        simp [List.getElem_eraseIdx_of_lt, hkj]
      · simpa [List.getElem_eraseIdx_of_lt, hkj] using hy2
    · obtain ⟨y, hy1, hy2⟩ := h1.2 (k + 1) (by rw [List.length_map]; omega)
      refine ⟨y, ?_, ?_⟩
      · rw [List.getElem?_append_right (by rw [List.length_take]; omega), List.length_take, List.getElem?_drop, show j + 1 + (k - min j xh.length) = k + 1 by omega, hy1]
        simp [List.getElem_eraseIdx_of_ge, Nat.le_of_not_lt hkj]
      · simpa [List.getElem_eraseIdx_of_ge, Nat.le_of_not_lt hkj] using hy2
  have hmem : ∀ p ∈ H.eraseIdx j, p.1 < 18446744073709551616 := fun p hp => his.bq p (List.eraseIdx_subset hp)
  have hH := his.held' (N' := fun b => N b ∨ w.heap.size ≤ b) hm46 (fun e => by have := h9 l e; omega) hrow hxe6 his.nl (fun g e => ⟨.inr (by have := h10w g e; omega), by have := h10w g e; omega⟩) hmem (by have := his.bl; simp only [List.length_eraseIdx] at *; split <;> omega)
  obtain ⟨g', rfl⟩ : ∃ g', f = g' + 1 := ⟨f - 1, by have := I.hf; omega⟩
  have hU := hH.1.upd (u + 1) hu
  have hms : Mut (fun k => k = l) w6 ((w6.setCell ⟨l, 1, none⟩ v10).setCell ⟨l, 0, none⟩ (.int .u64 (u + 1 : Nat))) := (mut1 (w := w6) (s := l) (i := 1) (v := v10)).trans hU.2
  have hm47 : Mut (fun k => k = l ∨ v9.ownBlock = some k) w4 ((w6.setCell ⟨l, 1, none⟩ v10).setCell ⟨l, 0, none⟩ (.int .u64 (u + 1 : Nat))) := (hm46.mono fun k _ e => .inr e).trans (hms.mono fun k _ e => .inl e)
  have hG : ∀ b, b < w4.heap.size → (b = l ∨ v9.ownBlock = some b) → N b ∨ w.heap.size ≤ b := fun b _ e => by
    rcases e with e | e
    · rw [e]; exact his.nl
    · exact .inr (by have := h9 b e; omega)
  refine ⟨_, rfl, hH.2.1, hH.2.2, hH.1.box.c0, hH.1.box.f 0, g', hrow4.mut hm47 fun g e e2 => ?_, hels.mut hm47 hG, ?_, fun g e => .inr (by have := h10w g e; omega), fun g e e2 => ?_, hmt.transG hm47 fun b hb e => ?_, I.lo, ?_, ?_, ?_, ?_, I.fb⟩
  · have h1 := hrow4.blk e
    rcases e2 with e2 | e2
    · omega
    · have := h9 g e2; omega
  · rw [hdel]; exact hU.1
  · have h1 := hrow4.blk e2
    have := h10w g e
    omega
  · rcases e with e | e
    · exact .inl e
    · have := h9 b e; omega
  · rw [I.eq, takeGo_some (show look (u + 1) H = some b by rw [← lookI_look (u + 1) H 0, he]; rfl)]; simp
  · have := I.fl; simp; omega
  · have h1 := I.hf
    rw [hdel, List.length_eraseIdx, if_pos hjl]; omega
  · have h1 := I.ub
    rw [hdel, List.length_eraseIdx, if_pos hjl]; omega
end
set_option maxRecDepth 100000 in
set_option maxHeartbeats 12800000 in
theorem rtake_any {w : World} {N : Nat → Prop} {s q : Nat} {iv : Value} {d : RLnk} {ba : Option Addr} {bc n : Nat} {bs : List Nat} (h : RLnkIs w N s iv d) (hN : ∀ b, N b → b < w.heap.size) (hub : d.upto + d.held.length ≤ 4611686018427387904) (hhl : d.held.length < 999900) (hqb : q < 18446744073709551616) (hn : Hid (bs.length = n)) (hnl : n ≤ 549755813888) (hr : ByteRow w ba bs) (hx : ∀ x ∈ bs, x < 256) (hbl : ∀ b off, ba = some ⟨b, off, none⟩ → bs ≠ [] → ¬ fpK s iv b) :
    Calls Try.prog 44 #[.pointer (some ⟨s, 0, none⟩), .int .u64 q, .slice ba n bc] w fun e w' => ∃ v xs hv', e = .returned v ∧ RTakeR w w' N s iv (takeL (rtakeD d) q bs) ⟨(takeD (rtakeD d) q bs).upto, (takeD (rtakeD d) q bs).held, true⟩ v xs hv' := by
  obtain ⟨ia, ic, hia, -⟩ := h.lit
  obtain ⟨m, hm⟩ : ∃ m, d.held.length = m := ⟨_, rfl⟩
  rw [hm] at hia
  subst hia
  have c2 := h.box.c2
  have f2 := h.box.f 2
  obtain ⟨hA, hmA⟩ := h.owe true
  obtain ⟨wA, hwA⟩ : ∃ wA, w.setCell ⟨s, 2, none⟩ (.bool true) = wA := ⟨_, rfl⟩
  rw [hwA] at hA hmA
  have c0 := hA.box.c0
  have HI := hid hA
  have HI00 := hid h
  have HMA := hid hmA
  have HNN := hid hN
  have HUB := hid hub
  have HHL := hid hhl
  obtain ⟨up, hup⟩ : ∃ up, d.upto = up := ⟨_, rfl⟩
  have HUP := hid hup
  simp only [hup] at c0
  by_cases h1 : q ≤ up
  · have t1 : decide ((q : Int) ≤ (up : Int)) = true := decide_eq_true (by omega)
    have t2 : decide (q ≤ up) = true := decide_eq_true h1
    have hno : takeNo (rtakeD d) q := .inr (.inl (by show q ≤ d.upto; omega))
    have HT : Hid (takeL (rtakeD d) q bs = []) := hid (by unfold takeL; rw [if_pos hno])
    have HD : Hid (takeD (rtakeD d) q bs = { rtakeD d with owes := true }) := hid (by unfold takeD; rw [if_pos hno])
    clear h hA hr hN hx hbl hmA h1 hno hup
    go_enter Try.func44, Try.ntmps44
    go_wp2_with fail
    go_ret
    have hX : RTakeR w wA N s (.slice ia m ic) (takeL (rtakeD d) q bs) ⟨(takeD (rtakeD d) q bs).upto, (takeD (rtakeD d) q bs).held, true⟩ (.slice none 0 0) [] (.slice ia m ic) := by
      rw [HT.out, HD.out]
      exact ⟨OwnK.nil _ _ _ _, ElsAt.nil _ _, HI.out.less (fun b e => .inl (HI.out.fp b e)) (fun b e => .inl (e.elim id fun e => (HI.out.nh b e).1)), fun g e => .inl e, fun g e e2 => (by cases e2), HMA.out.mono fun k _ e => .inl e⟩
    first | exact ⟨_, rfl, _, _, hX⟩ | exact ⟨_, _, _, rfl, hX⟩
  have t1 : decide ((q : Int) ≤ (up : Int)) = false := decide_eq_false (by omega)
  have t2 : decide (q ≤ up) = false := decide_eq_false h1
  have i1 : IntKind.u64.wrap ((q : Int) - (up : Int)) = (q : Int) - (up : Int) := by rw [IntKind.wrap_u64]; omega
  by_cases h2 : 16 < q - up
  · have t3 : decide ((q : Int) - (up : Int) > 16) = true := decide_eq_true (by omega)
    have t4 : decide (16 < (q : Int) - (up : Int)) = true := decide_eq_true (by omega)
    have hno : takeNo (rtakeD d) q := .inr (.inr (by show 16 < q - d.upto; omega))
    have HT : Hid (takeL (rtakeD d) q bs = []) := hid (by unfold takeL; rw [if_pos hno])
    have HD : Hid (takeD (rtakeD d) q bs = { rtakeD d with owes := true }) := hid (by unfold takeD; rw [if_pos hno])
    clear h hA hr hN hx hbl hmA h1 h2 hno hup
    go_enter Try.func44, Try.ntmps44
    go_wp2_with fail
    go_ret
    have hX : RTakeR w wA N s (.slice ia m ic) (takeL (rtakeD d) q bs) ⟨(takeD (rtakeD d) q bs).upto, (takeD (rtakeD d) q bs).held, true⟩ (.slice none 0 0) [] (.slice ia m ic) := by
      rw [HT.out, HD.out]
      exact ⟨OwnK.nil _ _ _ _, ElsAt.nil _ _, HI.out.less (fun b e => .inl (HI.out.fp b e)) (fun b e => .inl (e.elim id fun e => (HI.out.nh b e).1)), fun g e => .inl e, fun g e e2 => (by cases e2), HMA.out.mono fun k _ e => .inl e⟩
    first | exact ⟨_, rfl, _, _, hX⟩ | exact ⟨_, _, _, rfl, hX⟩
  have t3 : decide ((q : Int) - (up : Int) > 16) = false := decide_eq_false (by omega)
  have t4 : decide (16 < (q : Int) - (up : Int)) = false := decide_eq_false (by omega)
  have CF0 := rfind_any (q := q) hA hqb
  cases hlk : lookI q d.held 0 with
  | some jv =>
    have hrf : rfindI q ({ d with owes := true } : RLnk).held = (jv.1 : Int) := by unfold rfindI; rw [show ({ d with owes := true } : RLnk).held = d.held from rfl, hlk]
    rw [hrf] at CF0
    have CF := hid CF0
    have hno : takeNo (rtakeD d) q := .inl (by show (look q d.held).isSome = true; rw [← lookI_look q d.held 0, hlk]; rfl)
    have t5 : decide ((jv.1 : Int) ≥ 0) = true := decide_eq_true (by omega)
    have t6 : decide ((0 : Int) ≤ (jv.1 : Int)) = true := decide_eq_true (by omega)
    have HT : Hid (takeL (rtakeD d) q bs = []) := hid (by unfold takeL; rw [if_pos hno])
    have HD : Hid (takeD (rtakeD d) q bs = { rtakeD d with owes := true }) := hid (by unfold takeD; rw [if_pos hno])
    clear h hA hr hN hx hbl hmA h1 h2 hno hup hlk hrf CF0
    go_enter Try.func44, Try.ntmps44
    go_wp2_with fail
    refine CF.out.mono ?_
    rintro e w3 ⟨rfl, hw3⟩
    have hw4 := hw3.symm
    clear hw3
    subst hw4
    go_wp2_with fail
    go_ret
    have hX : RTakeR w wA N s (.slice ia m ic) (takeL (rtakeD d) q bs) ⟨(takeD (rtakeD d) q bs).upto, (takeD (rtakeD d) q bs).held, true⟩ (.slice none 0 0) [] (.slice ia m ic) := by
      rw [HT.out, HD.out]
      exact ⟨OwnK.nil _ _ _ _, ElsAt.nil _ _, HI.out.less (fun b e => .inl (HI.out.fp b e)) (fun b e => .inl (e.elim id fun e => (HI.out.nh b e).1)), fun g e => .inl e, fun g e e2 => (by cases e2), HMA.out.mono fun k _ e => .inl e⟩
    first | exact ⟨_, rfl, _, _, hX⟩ | exact ⟨_, _, _, rfl, hX⟩
  | none =>
  have hrf : rfindI q ({ d with owes := true } : RLnk).held = -1 := by unfold rfindI; rw [show ({ d with owes := true } : RLnk).held = d.held from rfl, hlk]
  rw [hrf] at CF0
  have CF := hid CF0
  have hlk2 : look q d.held = none := by rw [← lookI_look q d.held 0, hlk]; rfl
  have hno : ¬ takeNo (rtakeD d) q := by
    rintro (e | e | e)
    · have e : (look q d.held).isSome = true := e
      rw [hlk2] at e; cases e
    · have e : q ≤ d.upto := e; omega
    · have e : 16 < q - d.upto := e; omega
  have HT : Hid (takeL (rtakeD d) q bs = (takeT (rtakeD d) q bs).1) := hid (by unfold takeL; rw [if_neg hno])
  have HD : Hid (takeD (rtakeD d) q bs = { rtakeD d with owes := true, upto := (takeT (rtakeD d) q bs).2.1, held := (takeT (rtakeD d) q bs).2.2 }) := hid (by unfold takeD; rw [if_neg hno])
  have HTT : Hid (takeT (rtakeD d) q bs = takeGo (m + 1 + 1) d.upto (d.held ++ [(q, bs)])) := hid (by
    unfold takeT
    show takeGo (d.held.length + 1 + 1) d.upto (ins q bs d.held) = _
    rw [ins_none hlk2, hm])
  have hrA : ByteRow wA ba bs := hr.mutT hmA fun b off e hne e2 => hbl b off e hne (.inl e2)
  obtain ⟨xs, hxr, hxe⟩ := hA.it
  have HR : Hid (ByteRow wA.drew ba bs) := hid (hrA.ext (Below.refl _ _).drew)
  have HB1 : Hid (Below wA.heap.size wA wA.drew) := hid (Below.refl _ _).drew
  have HN1 : Hid (∀ b, N b → b < wA.heap.size) := hid fun b e => Nat.lt_of_lt_of_le (hN b e) hmA.size
  have HXX := hid hx
  have HEL := hid hxe
  have HXR : Hid (RowP wA.drew 0 2 (.slice ia m ic) xs) := hid (hxr.ext (Below.refl _ _).drew)
  have HML : Hid (d.held.length < 999990) := hid (by omega)
  have HQL := hid hqb
  have HXL : Hid (xs.length + 1 ≤ 1000000) := hid (by have := hxe.1; simp at this; omega)
  have HIS : Hid (¬ ((Value.slice ia m ic).ownBlock = some s)) := hid fun e => (h.nh s e).2 rfl
  have HS : Hid (∀ W, Below wA.drew.heap.size wA.drew W → W.cell? ⟨s, 2, none⟩ = some (.bool true) ∧ W.cell? ⟨s, 1, none⟩ = some (.slice ia m ic)) := hid fun W hb => ⟨(hb.cell (by exact hA.box.lt)).trans hA.box.c2, (hb.cell (by exact hA.box.lt)).trans hA.box.c1⟩
  have HMM := hid hm
  have HNS : Hid (N s) := hid h.nl
  obtain ⟨i0, hi, hz0, hz1, hz2⟩ := info_parts infoIt
  have t5 : decide ((-1 : Int) ≥ 0) = false := by decide
  clear h hr hN hx hbl hA hmA hrA hxr hxe hm hno hlk hlk2 hrf CF0 hup
  go_enter Try.func44, Try.ntmps44
  go_wp2_with fail
  refine CF.out.mono ?_
  rintro e w3 ⟨rfl, hw3⟩
  have hw4 := hw3.symm
  clear hw3
  subst hw4
  go_upto_region 4 with fail
  clear t1 t2 t3 t4 t5 c0 c2 f2 i1
  have HS0 := hid (HS.out _ (Below.refl _ _))
  go_cut [45] (fun t wx => ∃ iv', RLnkIs wx (fun b => N b ∨ iv'.ownBlock = some b) s iv' { d with owes := true, held := d.held ++ [(q, bs)] } ∧ (∀ g, iv'.ownBlock = some g → (Value.slice ia m ic).ownBlock = some g ∨ wA.heap.size ≤ g) ∧ Mut (fpK s (.slice ia m ic)) wA wx)
  case first =>
    refine wp_region_held_drew (S := fun W => W.cell? ⟨s, 2, none⟩ = some (.bool true)) (by kernel_rfl) (HS0.out.1) (fun hHeld => ?_)
    refine wpAnyH_take (i := 0) (oi := _) (v := .pointer (some ⟨s, 0, none⟩)) rfl (by kernel_rfl) (by kernel_rfl) (by kernel_rfl) (fun _ _ _ h => h) (Or.inl ⟨by rfl, ?_⟩) (by assumption) ?_
    · intro W hSw
      try dsimp only at hSw
      go_simp
    try simp only [Act.put, List.getElem_toArray, List.getElem_cons_zero, List.setIfInBounds_toArray, List.set_cons_zero, List.set_cons_succ]
    refine wpAnyH_take (i := 1) (oi := _) (v := .pointer (some ⟨s, 0, none⟩)) rfl (by kernel_rfl) (by kernel_rfl) (by kernel_rfl) (fun _ _ _ h => h) (Or.inl ⟨by rfl, ?_⟩) (by assumption) ?_
    · intro W hSw
      try dsimp only at hSw
      go_simp
    try simp only [Act.put, List.getElem_toArray, List.getElem_cons_succ, List.getElem_cons_zero, List.setIfInBounds_toArray, List.set_cons_zero, List.set_cons_succ]
    refine wpAnyH_take (i := 2) (oi := _) (v := .pointer (some ⟨s, 0, none⟩)) rfl (by kernel_rfl) (by kernel_rfl) (by kernel_rfl) (fun _ _ _ h => h) (Or.inl ⟨by rfl, ?_⟩) (by assumption) ?_
    · intro W hSw
      try dsimp only at hSw
      go_simp
    try simp only [Act.put, List.getElem_toArray, List.getElem_cons_succ, List.getElem_cons_zero, List.setIfInBounds_toArray, List.set_cons_zero, List.set_cons_succ]
    refine wpAnyH_take (i := 3) (oi := _) (v := .pointer (some ⟨s, 1, none⟩)) rfl (by kernel_rfl) (by kernel_rfl) (by kernel_rfl) (fun _ _ _ h => h) (Or.inl ⟨by rfl, ?_⟩) (by assumption) ?_
    · intro W hSw
      try dsimp only at hSw
      go_simp
    try simp only [Act.put, List.getElem_toArray, List.getElem_cons_succ, List.getElem_cons_zero, List.setIfInBounds_toArray, List.set_cons_zero, List.set_cons_succ]
    refine wpAnyH_take (i := 5) (oi := _) (v := .int .u64 q) rfl (by kernel_rfl) (by kernel_rfl) (by kernel_rfl) (fun _ _ _ h => h) (Or.inl ⟨by rfl, ?_⟩) (by assumption) ?_
    · intro W hSw
      try dsimp only at hSw
      go_simp
    try simp only [Act.put, List.getElem_toArray, List.getElem_cons_succ, List.getElem_cons_zero, List.setIfInBounds_toArray, List.set_cons_zero, List.set_cons_succ]
    refine wpAnyH_take (i := 7) (oi := _) (v := .slice ba n bc) rfl (by kernel_rfl) (by kernel_rfl) (by kernel_rfl) (fun _ _ _ h => h) (Or.inl ⟨by rfl, ?_⟩) (by assumption) ?_
    · intro W hSw
      try dsimp only at hSw
      go_simp
    try simp only [Act.put, List.getElem_toArray, List.getElem_cons_succ, List.getElem_cons_zero, List.setIfInBounds_toArray, List.set_cons_zero, List.set_cons_succ]
    refine wpAnyH_ready (rs := [4, 6]) (by kernel_rfl) (by simp) ?_
    refine AllReadyH.cons (o := _) rfl (fun K hK => ?_) (AllReadyH.cons (o := _) rfl (fun K hK => ?_) AllReadyH.nil)
    · have hld := HS0.out.2
      go_simp
      clear hld
      refine hK.out _ _ (HS0.out.1) (fun hHeld => ?_)
      clear hK K
      try simp only [Act.put, List.getElem_toArray, List.getElem_cons_succ, List.getElem_cons_zero, List.setIfInBounds_toArray, List.set_cons_zero, List.set_cons_succ]
      refine wpAnyH_ready (rs := [6]) (by kernel_rfl) (by simp) ?_
      refine AllReadyH.cons (o := _) rfl (fun K hK => ?_) AllReadyH.nil
      go_simp
      rw [show (wA.alloc (.cells #[] 5)).drew = wA.drew.alloc (.cells #[] 5) from rfl]
      obtain ⟨w2, hw2⟩ : ∃ w2, wA.drew.alloc (.cells #[] 5) = w2 := ⟨_, rfl⟩
      rw [hw2]
      have hb2 : Below wA.drew.heap.size wA.drew w2 := by rw [← hw2]; exact (Below.refl _ _).alloc (Nat.le_refl _) _
      have HE : Hid (OwnB w2 wA.drew.heap.size (.slice (some ⟨wA.drew.heap.size, 0, none⟩) 0 0) []) := hid (by rw [← hw2]; exact OwnB.empty _ _ (Nat.le_refl _))
      have HB2 := hid hb2
      have HS2 := hid (HS.out w2 hb2)
      clear hb2 hw2
      refine hK.out _ _ (HS2.out.1) (fun hHeld => ?_)
      clear hK K
      try simp only [Act.put, List.getElem_toArray, List.getElem_cons_succ, List.getElem_cons_zero, List.setIfInBounds_toArray, List.set_cons_zero, List.set_cons_succ]
      refine wpAnyH_ready (rs := [8]) (by kernel_rfl) (by simp) ?_
      refine AllReadyH.cons (o := _) rfl (fun K hK => ?_) AllReadyH.nil
      refine step_appendBy (by rfl) HE.out (HR.out.ext HB2.out) hn (by simp; omega) HB2.out.size rfl rfl rfl ?_
      intro u w3 hown3 hg3
      simp only [List.nil_append] at hown3
      obtain ⟨ua, uc, ue, -, -⟩ := id hown3.row
      rw [hn.out] at ue
      subst ue
      have hb3 : Below wA.drew.heap.size wA.drew w3 := below_grownE HB2.out hg3 (Nat.le_refl _) HB2.out.size
      have HU : Hid (OwnB w3 wA.drew.heap.size (.slice ua n uc) bs) := hid hown3
      have HB3 := hid hb3
      have HS3 := hid (HS.out w3 hb3)
      clear hown3 hg3 hb3
      refine hK.out _ _ (HS3.out.1) (fun hHeld => ?_)
      clear hK K
      try simp only [Act.put, List.getElem_toArray, List.getElem_cons_succ, List.getElem_cons_zero, List.setIfInBounds_toArray, List.set_cons_zero, List.set_cons_succ]
      refine wpAnyH_take (i := 9) (oi := _) (v := .agg #[.int .u64 q, .slice ua n uc]) rfl (by kernel_rfl) (by kernel_rfl) (by kernel_rfl) (fun _ _ _ h => h) (Or.inl ⟨by rfl, ?_⟩) (by assumption) ?_
      · intro W hSw
        try dsimp only at hSw
        go_simp
      try simp only [Act.put, List.getElem_toArray, List.getElem_cons_succ, List.getElem_cons_zero, List.setIfInBounds_toArray, List.set_cons_zero, List.set_cons_succ]
      refine wpAnyH_ready (rs := [10]) (by kernel_rfl) (by simp) ?_
      refine AllReadyH.cons (o := _) rfl (fun K hK => ?_) AllReadyH.nil
      go_simp
      obtain ⟨w4, hw4⟩ : ∃ w4, w3.alloc (.cells #[.int .u64 q, .slice ua n uc] 85) = w4 := ⟨_, rfl⟩
      rw [hw4]
      have hb34 : Below w3.heap.size w3 w4 := by rw [← hw4]; exact (Below.refl _ _).alloc (Nat.le_refl _) _
      have HB34 := hid hb34
      have HS4 := hid (HS.out w4 (HB3.out.trans (hb34.mono HB3.out.size)))
      have HQ4 : Hid (w4.cell? ⟨w3.heap.size, 0, none⟩ = some (.int .u64 q) ∧ w4.cell? ⟨w3.heap.size, 1, none⟩ = some (.slice ua n uc)) := hid (by rw [← hw4]; exact ⟨by simp, by simp⟩)
      clear hb34 hw4
      refine hK.out _ _ (HS4.out.1) (fun hHeld => ?_)
      clear hK K
      try simp only [Act.put, List.getElem_toArray, List.getElem_cons_succ, List.getElem_cons_zero, List.setIfInBounds_toArray, List.set_cons_zero, List.set_cons_succ]
      refine wpAnyH_ready (rs := [11]) (by kernel_rfl) (by simp) ?_
      refine AllReadyH.cons (o := _) rfl (fun K hK => ?_) AllReadyH.nil
      refine step_appendRw (by rfl) Try.underlying65 hi hz0 hz1 hz2 rfl (by decide) (by decide) (HXR.out.ext (HB3.out.trans (HB34.out.mono HB3.out.size))) (els2R rfl rfl) (cells2R HQ4.out.1 HQ4.out.2) HXL.out (Nat.zero_le _) rfl rfl rfl ?_
      intro v5 w5 hrow5 hm5 hn5
      obtain ⟨a8, c8, e8, -⟩ := hrow5.sli
      obtain ⟨n8, hn8⟩ : ∃ n8, (xs ++ [[Value.int .u64 q, .slice ua n uc]]).length = n8 := ⟨_, rfl⟩
      rw [hn8] at e8
      subst e8
      have hpp := rtake_item HI.out HN1.out HB1.out HB3.out HU.out HXX.out HB34.out HEL.out hrow5 hm5 hn5 HML.out HQL.out
      have HPP := hid hpp.1
      have HFF := hid hpp.2.2
      have HSF : Hid (w5.cell? ⟨s, 2, none⟩ = some (.bool true) ∧ w5.cell? ⟨s, 1, none⟩ = some (.slice ia m ic)) := hid ⟨(hm5.cell (p := ⟨s, 2, none⟩) (by exact World.block_lt_of_cell? _ _ HS4.out.1) (by exact HIS.out)).trans HS4.out.1, hpp.2.1⟩
      have HSG : Hid ((w5.setCell ⟨s, 1, none⟩ (.slice a8 n8 c8)).cell? ⟨s, 2, none⟩ = some (.bool true)) := hid (by rw [cellOff (by omega)]; exact HSF.out.1)
      have HN5 : Hid (∀ g, (Value.slice a8 n8 c8).ownBlock = some g → (Value.slice ia m ic).ownBlock = some g ∨ wA.heap.size ≤ g) := hid fun g e => (hn5 g e).imp id fun e => Nat.le_trans (Nat.le_trans HB1.out.size (Nat.le_trans HB3.out.size HB34.out.size)) e
      clear hrow5 hm5 hn5 hn8 hpp
      refine hK.out _ _ (HSF.out.1) (fun hHeld => ?_)
      clear hK K
      try simp only [Act.put, List.getElem_toArray, List.getElem_cons_succ, List.getElem_cons_zero, List.setIfInBounds_toArray, List.set_cons_zero, List.set_cons_succ]
      refine wpAnyH_ready (rs := [12]) (by kernel_rfl) (by simp) ?_
      refine AllReadyH.cons (o := _) rfl (fun K hK => ?_) AllReadyH.nil
      go_simp
      refine hK.out _ _ (HSF.out.1) (fun hHeld => ?_)
      clear hK K
      try simp only [Act.put, List.getElem_toArray, List.getElem_cons_succ, List.getElem_cons_zero, List.setIfInBounds_toArray, List.set_cons_zero, List.set_cons_succ]
      refine wpAnyH_ready (rs := [13]) (by kernel_rfl) (by simp) ?_
      refine AllReadyH.cons (o := _) rfl (fun K hK => ?_) AllReadyH.nil
      go_simp
      refine hK.out _ _ (HSF.out.1) (fun hHeld => ?_)
      clear hK K
      try simp only [Act.put, List.getElem_toArray, List.getElem_cons_succ, List.getElem_cons_zero, List.setIfInBounds_toArray, List.set_cons_zero, List.set_cons_succ]
      refine wpAnyH_ready (rs := [14]) (by kernel_rfl) (by simp) ?_
      refine AllReadyH.cons (o := _) rfl (fun K hK => ?_) AllReadyH.nil
      have ks := HSF.out.2
      have kf := HFF.out
      go_simp
      refine hK.out _ _ (HSG.out) (fun hHeld => ?_)
      clear hK K
      try simp only [Act.put, List.getElem_toArray, List.getElem_cons_succ, List.getElem_cons_zero, List.setIfInBounds_toArray, List.set_cons_zero, List.set_cons_succ]
      refine wpAnyH_done (by kernel_rfl) ?_ _
      go_wp2_with fail
      go_meet
      exact ⟨_, HPP.out.1, HN5.out, HPP.out.2⟩
    · go_simp
      rw [show (wA.alloc (.cells #[] 5)).drew = wA.drew.alloc (.cells #[] 5) from rfl]
      obtain ⟨w2, hw2⟩ : ∃ w2, wA.drew.alloc (.cells #[] 5) = w2 := ⟨_, rfl⟩
      rw [hw2]
      have hb2 : Below wA.drew.heap.size wA.drew w2 := by rw [← hw2]; exact (Below.refl _ _).alloc (Nat.le_refl _) _
      have HE : Hid (OwnB w2 wA.drew.heap.size (.slice (some ⟨wA.drew.heap.size, 0, none⟩) 0 0) []) := hid (by rw [← hw2]; exact OwnB.empty _ _ (Nat.le_refl _))
      have HB2 := hid hb2
      have HS2 := hid (HS.out w2 hb2)
      clear hb2 hw2
      refine hK.out _ _ (HS2.out.1) (fun hHeld => ?_)
      clear hK K
      try simp only [Act.put, List.getElem_toArray, List.getElem_cons_succ, List.getElem_cons_zero, List.setIfInBounds_toArray, List.set_cons_zero, List.set_cons_succ]
      refine wpAnyH_ready (rs := [4, 8]) (by kernel_rfl) (by simp) ?_
      refine AllReadyH.cons (o := _) rfl (fun K hK => ?_) (AllReadyH.cons (o := _) rfl (fun K hK => ?_) AllReadyH.nil)
      · have hld := HS2.out.2
        go_simp
        clear hld
        refine hK.out _ _ (HS2.out.1) (fun hHeld => ?_)
        clear hK K
        try simp only [Act.put, List.getElem_toArray, List.getElem_cons_succ, List.getElem_cons_zero, List.setIfInBounds_toArray, List.set_cons_zero, List.set_cons_succ]
        refine wpAnyH_ready (rs := [8]) (by kernel_rfl) (by simp) ?_
        refine AllReadyH.cons (o := _) rfl (fun K hK => ?_) AllReadyH.nil
        refine step_appendBy (by rfl) HE.out (HR.out.ext HB2.out) hn (by simp; omega) HB2.out.size rfl rfl rfl ?_
        intro u w3 hown3 hg3
        simp only [List.nil_append] at hown3
        obtain ⟨ua, uc, ue, -, -⟩ := id hown3.row
        rw [hn.out] at ue
        subst ue
        have hb3 : Below wA.drew.heap.size wA.drew w3 := below_grownE HB2.out hg3 (Nat.le_refl _) HB2.out.size
        have HU : Hid (OwnB w3 wA.drew.heap.size (.slice ua n uc) bs) := hid hown3
        have HB3 := hid hb3
        have HS3 := hid (HS.out w3 hb3)
        clear hown3 hg3 hb3
        refine hK.out _ _ (HS3.out.1) (fun hHeld => ?_)
        clear hK K
        try simp only [Act.put, List.getElem_toArray, List.getElem_cons_succ, List.getElem_cons_zero, List.setIfInBounds_toArray, List.set_cons_zero, List.set_cons_succ]
        refine wpAnyH_take (i := 9) (oi := _) (v := .agg #[.int .u64 q, .slice ua n uc]) rfl (by kernel_rfl) (by kernel_rfl) (by kernel_rfl) (fun _ _ _ h => h) (Or.inl ⟨by rfl, ?_⟩) (by assumption) ?_
        · intro W hSw
          try dsimp only at hSw
          go_simp
        try simp only [Act.put, List.getElem_toArray, List.getElem_cons_succ, List.getElem_cons_zero, List.setIfInBounds_toArray, List.set_cons_zero, List.set_cons_succ]
        refine wpAnyH_ready (rs := [10]) (by kernel_rfl) (by simp) ?_
        refine AllReadyH.cons (o := _) rfl (fun K hK => ?_) AllReadyH.nil
        go_simp
        obtain ⟨w4, hw4⟩ : ∃ w4, w3.alloc (.cells #[.int .u64 q, .slice ua n uc] 85) = w4 := ⟨_, rfl⟩
        rw [hw4]
        have hb34 : Below w3.heap.size w3 w4 := by rw [← hw4]; exact (Below.refl _ _).alloc (Nat.le_refl _) _
        have HB34 := hid hb34
        have HS4 := hid (HS.out w4 (HB3.out.trans (hb34.mono HB3.out.size)))
        have HQ4 : Hid (w4.cell? ⟨w3.heap.size, 0, none⟩ = some (.int .u64 q) ∧ w4.cell? ⟨w3.heap.size, 1, none⟩ = some (.slice ua n uc)) := hid (by rw [← hw4]; exact ⟨by simp, by simp⟩)
        clear hb34 hw4
        refine hK.out _ _ (HS4.out.1) (fun hHeld => ?_)
        clear hK K
        try simp only [Act.put, List.getElem_toArray, List.getElem_cons_succ, List.getElem_cons_zero, List.setIfInBounds_toArray, List.set_cons_zero, List.set_cons_succ]
        refine wpAnyH_ready (rs := [11]) (by kernel_rfl) (by simp) ?_
        refine AllReadyH.cons (o := _) rfl (fun K hK => ?_) AllReadyH.nil
        refine step_appendRw (by rfl) Try.underlying65 hi hz0 hz1 hz2 rfl (by decide) (by decide) (HXR.out.ext (HB3.out.trans (HB34.out.mono HB3.out.size))) (els2R rfl rfl) (cells2R HQ4.out.1 HQ4.out.2) HXL.out (Nat.zero_le _) rfl rfl rfl ?_
        intro v5 w5 hrow5 hm5 hn5
        obtain ⟨a8, c8, e8, -⟩ := hrow5.sli
        obtain ⟨n8, hn8⟩ : ∃ n8, (xs ++ [[Value.int .u64 q, .slice ua n uc]]).length = n8 := ⟨_, rfl⟩
        rw [hn8] at e8
        subst e8
        have hpp := rtake_item HI.out HN1.out HB1.out HB3.out HU.out HXX.out HB34.out HEL.out hrow5 hm5 hn5 HML.out HQL.out
        have HPP := hid hpp.1
        have HFF := hid hpp.2.2
        have HSF : Hid (w5.cell? ⟨s, 2, none⟩ = some (.bool true) ∧ w5.cell? ⟨s, 1, none⟩ = some (.slice ia m ic)) := hid ⟨(hm5.cell (p := ⟨s, 2, none⟩) (by exact World.block_lt_of_cell? _ _ HS4.out.1) (by exact HIS.out)).trans HS4.out.1, hpp.2.1⟩
        have HSG : Hid ((w5.setCell ⟨s, 1, none⟩ (.slice a8 n8 c8)).cell? ⟨s, 2, none⟩ = some (.bool true)) := hid (by rw [cellOff (by omega)]; exact HSF.out.1)
        have HN5 : Hid (∀ g, (Value.slice a8 n8 c8).ownBlock = some g → (Value.slice ia m ic).ownBlock = some g ∨ wA.heap.size ≤ g) := hid fun g e => (hn5 g e).imp id fun e => Nat.le_trans (Nat.le_trans HB1.out.size (Nat.le_trans HB3.out.size HB34.out.size)) e
        clear hrow5 hm5 hn5 hn8 hpp
        refine hK.out _ _ (HSF.out.1) (fun hHeld => ?_)
        clear hK K
        try simp only [Act.put, List.getElem_toArray, List.getElem_cons_succ, List.getElem_cons_zero, List.setIfInBounds_toArray, List.set_cons_zero, List.set_cons_succ]
        refine wpAnyH_ready (rs := [12]) (by kernel_rfl) (by simp) ?_
        refine AllReadyH.cons (o := _) rfl (fun K hK => ?_) AllReadyH.nil
        go_simp
        refine hK.out _ _ (HSF.out.1) (fun hHeld => ?_)
        clear hK K
        try simp only [Act.put, List.getElem_toArray, List.getElem_cons_succ, List.getElem_cons_zero, List.setIfInBounds_toArray, List.set_cons_zero, List.set_cons_succ]
        refine wpAnyH_ready (rs := [13]) (by kernel_rfl) (by simp) ?_
        refine AllReadyH.cons (o := _) rfl (fun K hK => ?_) AllReadyH.nil
        go_simp
        refine hK.out _ _ (HSF.out.1) (fun hHeld => ?_)
        clear hK K
        try simp only [Act.put, List.getElem_toArray, List.getElem_cons_succ, List.getElem_cons_zero, List.setIfInBounds_toArray, List.set_cons_zero, List.set_cons_succ]
        refine wpAnyH_ready (rs := [14]) (by kernel_rfl) (by simp) ?_
        refine AllReadyH.cons (o := _) rfl (fun K hK => ?_) AllReadyH.nil
        have ks := HSF.out.2
        have kf := HFF.out
        go_simp
        refine hK.out _ _ (HSG.out) (fun hHeld => ?_)
        clear hK K
        try simp only [Act.put, List.getElem_toArray, List.getElem_cons_succ, List.getElem_cons_zero, List.setIfInBounds_toArray, List.set_cons_zero, List.set_cons_succ]
        refine wpAnyH_done (by kernel_rfl) ?_ _
        go_wp2_with fail
        go_meet
        exact ⟨_, HPP.out.1, HN5.out, HPP.out.2⟩
      · refine step_appendBy (by rfl) HE.out (HR.out.ext HB2.out) hn (by simp; omega) HB2.out.size rfl rfl rfl ?_
        intro u w3 hown3 hg3
        simp only [List.nil_append] at hown3
        obtain ⟨ua, uc, ue, -, -⟩ := id hown3.row
        rw [hn.out] at ue
        subst ue
        have hb3 : Below wA.drew.heap.size wA.drew w3 := below_grownE HB2.out hg3 (Nat.le_refl _) HB2.out.size
        have HU : Hid (OwnB w3 wA.drew.heap.size (.slice ua n uc) bs) := hid hown3
        have HB3 := hid hb3
        have HS3 := hid (HS.out w3 hb3)
        clear hown3 hg3 hb3
        refine hK.out _ _ (HS3.out.1) (fun hHeld => ?_)
        clear hK K
        try simp only [Act.put, List.getElem_toArray, List.getElem_cons_succ, List.getElem_cons_zero, List.setIfInBounds_toArray, List.set_cons_zero, List.set_cons_succ]
        refine wpAnyH_take (i := 9) (oi := _) (v := .agg #[.int .u64 q, .slice ua n uc]) rfl (by kernel_rfl) (by kernel_rfl) (by kernel_rfl) (fun _ _ _ h => h) (Or.inl ⟨by rfl, ?_⟩) (by assumption) ?_
        · intro W hSw
          try dsimp only at hSw
          go_simp
        try simp only [Act.put, List.getElem_toArray, List.getElem_cons_succ, List.getElem_cons_zero, List.setIfInBounds_toArray, List.set_cons_zero, List.set_cons_succ]
        refine wpAnyH_ready (rs := [4, 10]) (by kernel_rfl) (by simp) ?_
        refine AllReadyH.cons (o := _) rfl (fun K hK => ?_) (AllReadyH.cons (o := _) rfl (fun K hK => ?_) AllReadyH.nil)
        · have hld := HS3.out.2
          go_simp
          clear hld
          refine hK.out _ _ (HS3.out.1) (fun hHeld => ?_)
          clear hK K
          try simp only [Act.put, List.getElem_toArray, List.getElem_cons_succ, List.getElem_cons_zero, List.setIfInBounds_toArray, List.set_cons_zero, List.set_cons_succ]
          refine wpAnyH_ready (rs := [10]) (by kernel_rfl) (by simp) ?_
          refine AllReadyH.cons (o := _) rfl (fun K hK => ?_) AllReadyH.nil
          go_simp
          obtain ⟨w4, hw4⟩ : ∃ w4, w3.alloc (.cells #[.int .u64 q, .slice ua n uc] 85) = w4 := ⟨_, rfl⟩
          rw [hw4]
          have hb34 : Below w3.heap.size w3 w4 := by rw [← hw4]; exact (Below.refl _ _).alloc (Nat.le_refl _) _
          have HB34 := hid hb34
          have HS4 := hid (HS.out w4 (HB3.out.trans (hb34.mono HB3.out.size)))
          have HQ4 : Hid (w4.cell? ⟨w3.heap.size, 0, none⟩ = some (.int .u64 q) ∧ w4.cell? ⟨w3.heap.size, 1, none⟩ = some (.slice ua n uc)) := hid (by rw [← hw4]; exact ⟨by simp, by simp⟩)
          clear hb34 hw4
          refine hK.out _ _ (HS4.out.1) (fun hHeld => ?_)
          clear hK K
          try simp only [Act.put, List.getElem_toArray, List.getElem_cons_succ, List.getElem_cons_zero, List.setIfInBounds_toArray, List.set_cons_zero, List.set_cons_succ]
          refine wpAnyH_ready (rs := [11]) (by kernel_rfl) (by simp) ?_
          refine AllReadyH.cons (o := _) rfl (fun K hK => ?_) AllReadyH.nil
          refine step_appendRw (by rfl) Try.underlying65 hi hz0 hz1 hz2 rfl (by decide) (by decide) (HXR.out.ext (HB3.out.trans (HB34.out.mono HB3.out.size))) (els2R rfl rfl) (cells2R HQ4.out.1 HQ4.out.2) HXL.out (Nat.zero_le _) rfl rfl rfl ?_
          intro v5 w5 hrow5 hm5 hn5
          obtain ⟨a8, c8, e8, -⟩ := hrow5.sli
          obtain ⟨n8, hn8⟩ : ∃ n8, (xs ++ [[Value.int .u64 q, .slice ua n uc]]).length = n8 := ⟨_, rfl⟩
          rw [hn8] at e8
          subst e8
          have hpp := rtake_item HI.out HN1.out HB1.out HB3.out HU.out HXX.out HB34.out HEL.out hrow5 hm5 hn5 HML.out HQL.out
          have HPP := hid hpp.1
          have HFF := hid hpp.2.2
          have HSF : Hid (w5.cell? ⟨s, 2, none⟩ = some (.bool true) ∧ w5.cell? ⟨s, 1, none⟩ = some (.slice ia m ic)) := hid ⟨(hm5.cell (p := ⟨s, 2, none⟩) (by exact World.block_lt_of_cell? _ _ HS4.out.1) (by exact HIS.out)).trans HS4.out.1, hpp.2.1⟩
          have HSG : Hid ((w5.setCell ⟨s, 1, none⟩ (.slice a8 n8 c8)).cell? ⟨s, 2, none⟩ = some (.bool true)) := hid (by rw [cellOff (by omega)]; exact HSF.out.1)
          have HN5 : Hid (∀ g, (Value.slice a8 n8 c8).ownBlock = some g → (Value.slice ia m ic).ownBlock = some g ∨ wA.heap.size ≤ g) := hid fun g e => (hn5 g e).imp id fun e => Nat.le_trans (Nat.le_trans HB1.out.size (Nat.le_trans HB3.out.size HB34.out.size)) e
          clear hrow5 hm5 hn5 hn8 hpp
          refine hK.out _ _ (HSF.out.1) (fun hHeld => ?_)
          clear hK K
          try simp only [Act.put, List.getElem_toArray, List.getElem_cons_succ, List.getElem_cons_zero, List.setIfInBounds_toArray, List.set_cons_zero, List.set_cons_succ]
          refine wpAnyH_ready (rs := [12]) (by kernel_rfl) (by simp) ?_
          refine AllReadyH.cons (o := _) rfl (fun K hK => ?_) AllReadyH.nil
          go_simp
          refine hK.out _ _ (HSF.out.1) (fun hHeld => ?_)
          clear hK K
          try simp only [Act.put, List.getElem_toArray, List.getElem_cons_succ, List.getElem_cons_zero, List.setIfInBounds_toArray, List.set_cons_zero, List.set_cons_succ]
          refine wpAnyH_ready (rs := [13]) (by kernel_rfl) (by simp) ?_
          refine AllReadyH.cons (o := _) rfl (fun K hK => ?_) AllReadyH.nil
          go_simp
          refine hK.out _ _ (HSF.out.1) (fun hHeld => ?_)
          clear hK K
          try simp only [Act.put, List.getElem_toArray, List.getElem_cons_succ, List.getElem_cons_zero, List.setIfInBounds_toArray, List.set_cons_zero, List.set_cons_succ]
          refine wpAnyH_ready (rs := [14]) (by kernel_rfl) (by simp) ?_
          refine AllReadyH.cons (o := _) rfl (fun K hK => ?_) AllReadyH.nil
          have ks := HSF.out.2
          have kf := HFF.out
          go_simp
          refine hK.out _ _ (HSG.out) (fun hHeld => ?_)
          clear hK K
          try simp only [Act.put, List.getElem_toArray, List.getElem_cons_succ, List.getElem_cons_zero, List.setIfInBounds_toArray, List.set_cons_zero, List.set_cons_succ]
          refine wpAnyH_done (by kernel_rfl) ?_ _
          go_wp2_with fail
          go_meet
          exact ⟨_, HPP.out.1, HN5.out, HPP.out.2⟩
        · go_simp
          obtain ⟨w4, hw4⟩ : ∃ w4, w3.alloc (.cells #[.int .u64 q, .slice ua n uc] 85) = w4 := ⟨_, rfl⟩
          rw [hw4]
          have hb34 : Below w3.heap.size w3 w4 := by rw [← hw4]; exact (Below.refl _ _).alloc (Nat.le_refl _) _
          have HB34 := hid hb34
          have HS4 := hid (HS.out w4 (HB3.out.trans (hb34.mono HB3.out.size)))
          have HQ4 : Hid (w4.cell? ⟨w3.heap.size, 0, none⟩ = some (.int .u64 q) ∧ w4.cell? ⟨w3.heap.size, 1, none⟩ = some (.slice ua n uc)) := hid (by rw [← hw4]; exact ⟨by simp, by simp⟩)
          clear hb34 hw4
          refine hK.out _ _ (HS4.out.1) (fun hHeld => ?_)
          clear hK K
          try simp only [Act.put, List.getElem_toArray, List.getElem_cons_succ, List.getElem_cons_zero, List.setIfInBounds_toArray, List.set_cons_zero, List.set_cons_succ]
          refine wpAnyH_ready (rs := [4]) (by kernel_rfl) (by simp) ?_
          refine AllReadyH.cons (o := _) rfl (fun K hK => ?_) AllReadyH.nil
          have hld := HS4.out.2
          go_simp
          clear hld
          refine hK.out _ _ (HS4.out.1) (fun hHeld => ?_)
          clear hK K
          try simp only [Act.put, List.getElem_toArray, List.getElem_cons_succ, List.getElem_cons_zero, List.setIfInBounds_toArray, List.set_cons_zero, List.set_cons_succ]
          refine wpAnyH_ready (rs := [11]) (by kernel_rfl) (by simp) ?_
          refine AllReadyH.cons (o := _) rfl (fun K hK => ?_) AllReadyH.nil
          refine step_appendRw (by rfl) Try.underlying65 hi hz0 hz1 hz2 rfl (by decide) (by decide) (HXR.out.ext (HB3.out.trans (HB34.out.mono HB3.out.size))) (els2R rfl rfl) (cells2R HQ4.out.1 HQ4.out.2) HXL.out (Nat.zero_le _) rfl rfl rfl ?_
          intro v5 w5 hrow5 hm5 hn5
          obtain ⟨a8, c8, e8, -⟩ := hrow5.sli
          obtain ⟨n8, hn8⟩ : ∃ n8, (xs ++ [[Value.int .u64 q, .slice ua n uc]]).length = n8 := ⟨_, rfl⟩
          rw [hn8] at e8
          subst e8
          have hpp := rtake_item HI.out HN1.out HB1.out HB3.out HU.out HXX.out HB34.out HEL.out hrow5 hm5 hn5 HML.out HQL.out
          have HPP := hid hpp.1
          have HFF := hid hpp.2.2
          have HSF : Hid (w5.cell? ⟨s, 2, none⟩ = some (.bool true) ∧ w5.cell? ⟨s, 1, none⟩ = some (.slice ia m ic)) := hid ⟨(hm5.cell (p := ⟨s, 2, none⟩) (by exact World.block_lt_of_cell? _ _ HS4.out.1) (by exact HIS.out)).trans HS4.out.1, hpp.2.1⟩
          have HSG : Hid ((w5.setCell ⟨s, 1, none⟩ (.slice a8 n8 c8)).cell? ⟨s, 2, none⟩ = some (.bool true)) := hid (by rw [cellOff (by omega)]; exact HSF.out.1)
          have HN5 : Hid (∀ g, (Value.slice a8 n8 c8).ownBlock = some g → (Value.slice ia m ic).ownBlock = some g ∨ wA.heap.size ≤ g) := hid fun g e => (hn5 g e).imp id fun e => Nat.le_trans (Nat.le_trans HB1.out.size (Nat.le_trans HB3.out.size HB34.out.size)) e
          clear hrow5 hm5 hn5 hn8 hpp
          refine hK.out _ _ (HSF.out.1) (fun hHeld => ?_)
          clear hK K
          try simp only [Act.put, List.getElem_toArray, List.getElem_cons_succ, List.getElem_cons_zero, List.setIfInBounds_toArray, List.set_cons_zero, List.set_cons_succ]
          refine wpAnyH_ready (rs := [12]) (by kernel_rfl) (by simp) ?_
          refine AllReadyH.cons (o := _) rfl (fun K hK => ?_) AllReadyH.nil
          go_simp
          refine hK.out _ _ (HSF.out.1) (fun hHeld => ?_)
          clear hK K
          try simp only [Act.put, List.getElem_toArray, List.getElem_cons_succ, List.getElem_cons_zero, List.setIfInBounds_toArray, List.set_cons_zero, List.set_cons_succ]
          refine wpAnyH_ready (rs := [13]) (by kernel_rfl) (by simp) ?_
          refine AllReadyH.cons (o := _) rfl (fun K hK => ?_) AllReadyH.nil
          go_simp
          refine hK.out _ _ (HSF.out.1) (fun hHeld => ?_)
          clear hK K
          try simp only [Act.put, List.getElem_toArray, List.getElem_cons_succ, List.getElem_cons_zero, List.setIfInBounds_toArray, List.set_cons_zero, List.set_cons_succ]
          refine wpAnyH_ready (rs := [14]) (by kernel_rfl) (by simp) ?_
          refine AllReadyH.cons (o := _) rfl (fun K hK => ?_) AllReadyH.nil
          have ks := HSF.out.2
          have kf := HFF.out
          go_simp
          refine hK.out _ _ (HSG.out) (fun hHeld => ?_)
          clear hK K
          try simp only [Act.put, List.getElem_toArray, List.getElem_cons_succ, List.getElem_cons_zero, List.setIfInBounds_toArray, List.set_cons_zero, List.set_cons_succ]
          refine wpAnyH_done (by kernel_rfl) ?_ _
          go_wp2_with fail
          go_meet
          exact ⟨_, HPP.out.1, HN5.out, HPP.out.2⟩
  case rest =>
  obtain ⟨iv', hI2, hn2, hm2⟩ := hcut
  rename World => wB
  obtain ⟨N0, hN0⟩ : ∃ N0 : Nat → Prop, (fun b => N b ∨ iv'.ownBlock = some b) = N0 := ⟨_, rfl⟩
  have HN0 : Hid (∀ b, N0 b ↔ (N b ∨ iv'.ownBlock = some b)) := hid fun b => by rw [← hN0]
  rw [hN0] at hI2
  obtain ⟨T, hT⟩ : ∃ T, takeT (rtakeD d) q bs = T := ⟨_, rfl⟩
  rw [hT] at HT HD HTT
  have HLT : Hid (∀ b, N0 b → b < wB.heap.size) := hid fun b e => by
    rcases (HN0.out b).1 e with e | e
    · exact Nat.lt_of_lt_of_le (HN1.out b e) hm2.size
    · exact hI2.fplt b (.inr e)
  have HK0 : Hid (RTakeI wB wB N0 s iv' T (m + 2) (.slice none 0 0) [] [] iv' d.upto (d.held ++ [(q, bs)]) (m + 2)) := hid
    ⟨OwnK.nil _ _ _ _, ElsAt.nil _ _, hI2.less (fun b e => .inl (hI2.fp b e)) (fun b e => e), fun g e => .inl e, fun g e e2 => (by cases e2), Mut.refl _ _, hI2.fplt, by rw [HTT.out]; rfl, by simp, by have := HMM.out; simp; omega, by have := HUB.out; have := HMM.out; simp; omega, by have := HHL.out; have := HMM.out; omega⟩
  have HN2 := hid hn2
  have HM2 := hid hm2
  have HML2 : Hid (m ≤ 999900) := hid (by have := HHL.out; have := HMM.out; omega)
  obtain ⟨j0, hj, jz0, jz1, jz2⟩ := info_parts infoBsl
  clear hI2 hn2 hm2 hN0 hT HEL HXR HXL HR HB1 HS HS0 HI00
  go_wp2_with fail
  go_loopw [7] (fun v wr => ∃ (va : Option Addr) (vn vc : Nat) (xs : List (List Value)) (ls : List (List Nat)) (hv : Value) (u : Nat) (H : List (Nat × List Nat)) (f : Nat), v = .slice va vn vc ∧ vn ≤ m + 2 ∧ Hid (xs.length = vn) ∧ Hid (RTakeI wB wr N0 s iv' T (m + 2) (.slice va vn vc) xs ls hv u H f)) (fun v _ => m + 3 - slLen v)
  case atStart => exact ⟨none, 0, 0, [], [], iv', d.upto, d.held ++ [(q, bs)], m + 2, rfl, by omega, hid rfl, HK0⟩
  case round =>
    obtain ⟨va, vn, vc, xs, ls, hv, u, H, f, rfl, hvn, HXN, HK⟩ := hrel
    rename World => wr
    obtain ⟨ha, hc, hhl', hhc⟩ := HK.out.is.lit
    obtain ⟨hn', hhn⟩ : ∃ hn', H.length = hn' := ⟨_, rfl⟩
    have hhl2 : hv = .slice ha hn' hc := by rw [hhl', ← hhn]
    have hhc' : hn' ≤ hc := by rw [← hhn]; exact hhc
    subst hhl2
    clear hhl' hhc
    have c0 := HK.out.is.box.c0
    have c1 := HK.out.is.box.c1
    have f0 := HK.out.is.box.f 0
    have f1 := HK.out.is.box.f 1
    obtain ⟨u1, hu1⟩ : ∃ u1, u + 1 = u1 := ⟨_, rfl⟩
    have hub := HK.out.ub
    have hu1b : u1 < 18446744073709551616 := by omega
    have i1 : IntKind.u64.wrap ((u : Int) + 1) = (u1 : Int) := by rw [IntKind.wrap_u64]; omega
    have CF0 := rfind_any (q := u1) HK.out.is hu1b
    have HHN := hid hhn
    have HU1 := hid hu1
    have hml := HML2.out
    cases hlk : lookI u1 H 0 with
    | none =>
      have hrf : rfindI u1 ({ upto := u, held := H, owes := true } : RLnk).held = -1 := by unfold rfindI; rw [show ({ upto := u, held := H, owes := true } : RLnk).held = H from rfl, hlk]
      rw [hrf] at CF0
      have CF := hid CF0
      have hlk2 : look (u + 1) H = none := by rw [hu1, ← lookI_look u1 H 0, hlk]; rfl
      have HE : Hid (T = (ls, u, H)) := hid (by
        have h1 := HK.out.eq
        have h2 := HK.out.hf
        obtain ⟨g, rfl⟩ : ∃ g, f = g + 1 := ⟨f - 1, by omega⟩
        rw [takeGo_none hlk2, List.append_nil] at h1
        exact h1)
      have t5 : decide ((-1 : Int) ≥ 0) = false := by decide
      clear hrf CF0 hlk hlk2 hub hu1 hhn hhc' c1 f0 f1
      go_wp2_with fail
      refine CF.out.mono ?_
      rintro e w3 ⟨rfl, hw3⟩
      have hw4 := hw3.symm
      clear hw3
      subst hw4
      go_wp2_with fail
      go_ret
      have I := HK.out
      have hsz : w.heap.size ≤ wB.heap.size := Nat.le_trans HMA.out.size HM2.out.size
      have hX : RTakeR w wr N s (.slice ia m ic) (takeL (rtakeD d) q bs) ⟨(takeD (rtakeD d) q bs).upto, (takeD (rtakeD d) q bs).held, true⟩ (.slice va vn vc) xs (.slice ha hn' hc) := by
        rw [HT.out, HD.out, HE.out]
        refine ⟨I.row.mono hsz, I.els.grow2 fun b e => ?_, I.is.less (fun b e => ?_) (fun b e => ?_), fun g e => ?_, I.nv, ?_⟩
        · rcases e with e | e | e
          · exact .inl ((HN0.out b).2 (.inl e))
          · rcases I.new b e with e | e
            · exact .inl ((HN0.out b).2 (.inr e))
            · exact .inr e
          · exact .inr (I.row.blk e).1
        · rcases e with e | e
          · rw [e]; exact .inl HNS.out
          · exact .inr e
        · rcases e with e | e
          · exact .inl (.inl ((HN0.out b).2 (.inl e)))
          · rcases I.new b e with e | e
            · exact .inl (.inl ((HN0.out b).2 (.inr e)))
            · exact .inl (.inr e)
        · rcases I.new g e with e | e
          · rcases HN2.out g e with e | e
            · exact .inl e
            · exact .inr (Nat.le_trans HMA.out.size e)
          · exact .inr (Nat.le_trans hsz e)
        · refine ((HMA.out.mono fun k _ e => (show fpK s (.slice ia m ic) k from .inl e)).trans HM2.out).transG I.mt fun k hk e => ?_
          rcases e with e | e
          · exact .inl e
          · rcases HN2.out k e with e | e
            · exact .inr e
            · have := HMA.out.size; omega
      first | exact ⟨_, rfl, _, _, hX⟩ | exact ⟨_, _, _, rfl, hX⟩
    | some jv =>
      obtain ⟨j, b⟩ := jv
      have hrf : rfindI u1 ({ upto := u, held := H, owes := true } : RLnk).held = (j : Int) := by unfold rfindI; rw [show ({ upto := u, held := H, owes := true } : RLnk).held = H from rfl, hlk]
      rw [hrf] at CF0
      have CF := hid CF0
      have hget : H[j]? = some (u1, b) := by have := lookI_get hlk; rwa [Nat.sub_zero] at this
      have hjl : j < hn' := by rw [← hhn]; exact (List.getElem?_eq_some_iff.1 hget).1
      obtain ⟨g, off, cap, ub, e, hg, -, q1, hiu⟩ := HK.out.is.item (i := j) (p := (u1, b)) hget
      injection e with e1 e2 e3
      subst e1
      clear e2 e3
      obtain ⟨ua, uc, rfl, -, -, -⟩ := id hiu
      obtain ⟨bl, hbl⟩ : ∃ bl, b.length = bl := ⟨_, rfl⟩
      rw [hbl] at q1 hiu
      have t5 : decide ((j : Int) ≥ 0) = true := decide_eq_true (by omega)
      have t6 : decide ((0 : Int) ≤ (j : Int)) = true := decide_eq_true (by omega)
      have hjb : j ≤ 999990 := by have := HK.out.is.bl; have e : ({ upto := u, held := H, owes := true } : RLnk).held.length = hn' := hhn; omega
      obtain ⟨xh, hxr, hxe⟩ := HK.out.is.it
      have hxl : xh.length = hn' := by have := hxe.1; simp at this; omega
      have r1 : ∀ W, (Instr.slice 65 (.slice (some ⟨g, off, none⟩) hn' hc) none (some (.int .i64 (j : Int))) none).run Try.prog W = .ok (.slice (some ⟨g, off, none⟩) j hc) W := fun W => run_toP Try.underlying65 sizeItem (by omega) hhc' W
      have r2 : ∀ W, (Instr.slice 65 (.slice (some ⟨g, off, none⟩) hn' hc) (some (.int .i64 ((j : Int) + 1))) none none).run Try.prog W = .ok (.slice (if hc = j + 1 then some ⟨g, off, none⟩ else (some (⟨g, off, none⟩ : Addr)).map (·.add ((j + 1) * 2))) (hn' - (j + 1)) (hc - (j + 1))) W := fun W => run_fromP (k := j + 1) Try.underlying65 sizeItem (by omega) W
      have hdr := hxr.drop (n := j + 1) (a := some ⟨g, off, none⟩) (c := hc) (by rw [hxl]) (by omega)
      rw [hxl] at hdr
      obtain ⟨x2, hx2⟩ : ∃ x2, (if hc = j + 1 then some ⟨g, off, none⟩ else (some (⟨g, off, none⟩ : Addr)).map (·.add ((j + 1) * 2))) = x2 := ⟨_, rfl⟩
      rw [hx2] at hdr
      simp only [hx2] at r2
      have htk := hxr.take (a := some ⟨g, off, none⟩) (c := hc) (by rw [hxl]) (n := j) (by omega)
      have HNV : Hid (∀ g', (Value.slice (some ⟨g, off, none⟩) hn' hc).ownBlock = some g' → (Value.slice va vn vc).ownBlock ≠ some g') := hid HK.out.nv
      have HTK : Hid (∀ W, Mut (fun g => (Value.slice va vn vc).ownBlock = some g) wr W → RowP W 0 2 (.slice (some ⟨g, off, none⟩) j hc) (xh.take j)) := hid fun W hm => htk.mut hm fun g' e => HNV.out g' e
      have HDR : Hid (∀ W, Mut (fun g => (Value.slice va vn vc).ownBlock = some g) wr W → RowP W 0 2 (.slice x2 (hn' - (j + 1)) (hc - (j + 1))) (xh.drop (j + 1))) := hid fun W hm => hdr.mut hm fun g' e => HNV.out g' (by rw [← hx2] at e; exact ownBlock_map g' e)
      have HXE := hid hxe
      have HXH := hid hxl
      have HIU := hid hiu
      have HLK := hid hlk
      have HJL : Hid (j < H.length) := hid (by rw [hhn]; exact hjl)
      have HJB := hid hjb
      obtain ⟨wC, hwC⟩ : ∃ wC, wr.alloc (.cells #[.slice ua bl uc] 32) = wC := ⟨_, rfl⟩
      have hbC : Below wr.heap.size wr wC := by rw [← hwC]; exact (Below.refl _ _).alloc (Nat.le_refl _) _
      have HC2 : Hid (∀ q x, [Value.slice ua bl uc][q]? = some x → wC.cell? ⟨wr.heap.size, q, none⟩ = some x) := hid fun q x hq => by
        have h0 : q = 0 := by have := (List.getElem?_eq_some_iff.1 hq).1; simpa using this
        subst h0
        simp at hq; subst hq
        rw [← hwC]; simp
      have HBC := hid hbC
      have HXL : Hid (xs.length + 1 ≤ 1000000) := hid (by have := HXN.out; omega)
      have HHLB : Hid (hn' ≤ 999990) := hid (by have := HK.out.is.bl; have e : ({ upto := u, held := H, owes := true } : RLnk).held.length = hn' := hhn; omega)
      clear hiu hbC hbl hget hxr hxe hxl hdr htk hx2 hlk hrf CF0 hg hub hhn
      go_wp2_with fail
      refine CF.out.mono ?_
      rintro e w3 ⟨rfl, hw3⟩
      have hw4 := hw3.symm
      clear hw3
      subst hw4
      go_wp2_with fail
      refine CF.out.mono ?_
      rintro e w3 ⟨rfl, hw3⟩
      have hw4 := hw3.symm
      clear hw3
      subst hw4
      go_upto_region 10 with (at_builtin; refine wpList_appendE (el := [.slice ua bl uc]) (b := wr.heap.size) Try.underlying22 hj jz0 jz1 jz2 rfl (by decide) (by decide) (HK.out.row.ext HBC.out) rfl (fun u hu => by rw [List.mem_singleton.1 hu]; rfl) HC2.out HXL.out (Nat.le_trans HK.out.mt.size HBC.out.size) rfl rfl rfl rfl ?_; intro v4 w4 hown4 hm4 hn4; obtain ⟨a4, c4, e4, -⟩ := hown4.sli; have hl4 : (xs ++ [[Value.slice ua bl uc]]).length = vn + 1 := (by simp [HXN.out]); rw [hl4] at e4; subst e4; have hO := rtake_out HK.out HIU.out HBC.out hown4 hm4 hn4; have hmr4 : Mut (fun g => (Value.slice va vn vc).ownBlock = some g) wr w4 := (Mut.of_below HBC.out).trans ⟨hm4.os, hm4.tape, hm4.output, hm4.size, hm4.block⟩; have c41 := hO.2.1.box.c1; have HT4 := hid (HTK.out w4 hmr4); have HD4 := hid (HDR.out w4 hmr4); have HX4 : Hid (ElsAt w4 (fun b => N0 b ∨ wB.heap.size ≤ b) xh (H.map itemC)) := hid (HXE.out.mut hmr4 fun b _ e => .inr (HK.out.row.blk e).1); have HO4 := hid hO; have HR4 := hid hown4; have HL4 := hid hl4; clear hO hmr4 hown4 hm4 hn4 hl4)
      go_upto_region 11 with (at_builtin; refine wpList_appendRow Try.underlying65 hi hz0 hz1 hz2 rfl (by decide) (by decide) (RowP.nil w4 0 2) HT4.out (by have h1 := HXH.out; have h2 := HHLB.out; simp; omega) (Nat.zero_le _) rfl rfl rfl rfl ?_; intro v9 w5 hrow9 hm9 hn9; obtain ⟨a9, c9, e9, -⟩ := hrow9.sli; obtain ⟨n9, hn9'⟩ : ∃ n9, (([] : List (List Value)) ++ xh.take j).length = n9 := ⟨_, rfl⟩; rw [hn9'] at e9; subst e9; have hb5 : Below w4.heap.size w4 w5 := ⟨hm9.os, hm9.tape, hm9.output, hm9.size, fun k hk => hm9.block k hk (fun e => by cases e)⟩; have c51 : w5.cell? ⟨s, 1, none⟩ = some (.slice (some ⟨g, off, none⟩) hn' hc) := cell_toB c41 hb5; have HR9 := hid hrow9; have HD5 := hid (HD4.out.ext hb5); have HB5 := hid hb5; have H9 : Hid (∀ g', (Value.slice a9 n9 c9).ownBlock = some g' → w4.heap.size ≤ g') := hid fun g' e => (hn9 g' e).elim (fun e => by cases e) id; clear hrow9 hm9 hn9 hn9' hb5 c41)
      go_upto_region 12 with (at_builtin; refine wpList_appendRow Try.underlying65 hi hz0 hz1 hz2 rfl (by decide) (by decide) HR9.out HD5.out (by have h1 := HXH.out; have h2 := HHLB.out; simp; omega) (Nat.zero_le _) rfl rfl rfl rfl ?_; intro v10 w6 hrow10 hm10 hn10; obtain ⟨a10, c10, e10, -⟩ := hrow10.sli; obtain ⟨n10, hn10'⟩ : ∃ n10, ((([] : List (List Value)) ++ xh.take j) ++ xh.drop (j + 1)).length = n10 := ⟨_, rfl⟩; rw [hn10'] at e10; subst e10; rw [List.nil_append] at hrow10; obtain ⟨w7, hw7, k6, f6, k7, f7, f', hI'⟩ := rtake_cut HK.out (by rw [HU1.out]; exact HLK.out) HR4.out HO4.out.1 HO4.out.2.1 HO4.out.2.2.2 HX4.out HB5.out H9.out hm10 hn10 hrow10 (by have := HU1.out; omega); subst hw7; have k60 := k7; rw [cellOff (by omega)] at k60; have f60 := f7; rw [World.frozen?_setCell] at f60; simp only [HU1.out] at hI'; have HI' := hid hI'; clear hI' hrow10 hm10 hn10 hn10' c51)
      go_wp2_with fail
      have hfl := HI'.out.fl
      have hl4 := HL4.out
      refine ⟨⟨a4, vn + 1, c4, _, _, _, u1, _, f', rfl, by omega, HL4, HI'⟩, ?_⟩
      simp [slLen]; omega
end Go.Proofs.Ytidohmpnefcpcaa

