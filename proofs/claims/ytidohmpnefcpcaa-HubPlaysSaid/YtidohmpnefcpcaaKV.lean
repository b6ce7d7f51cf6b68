/- Parts of the proof: KV. -/
import Derived.Test.YtidohmpnefcpcaaK9
namespace Go.Proofs.Ytidohmpnefcpcaa
open Go.RowKit
/-! ### the reference's sender: Put -/
theorem OwnB.empty (w : World) (base : Nat) (hb : base ≤ w.heap.size) : OwnB (w.alloc (.cells #[] 5)) base (.slice (some ⟨w.heap.size, 0, none⟩) 0 0) [] :=
  ⟨rfl, .inr ⟨w.heap.size, 0, #[], rfl, hb, by show (w.heap.push _)[w.heap.size]? = _; simp, Nat.le_refl _, by decide, by simp, by simp [u8C]⟩⟩
/-- append of bytes at an operation of a region that draws -/
theorem step_appendBy {w : World} {o : Oper} {a : Go.Act} {K : Go.Act → World → Prop} {Q : Exit → Go.Act → World → Prop} {y : Nat → Option Bool} {s x : Operand} {base : Nat} {v : Value} {xs ys : List Nat} {ad : Option Addr} {c n : Nat} (hw : Region.wanted o y = true) (hown : OwnB w base v xs) (hy : ByteRow w ad ys) (hn : Hid (ys.length = n)) (hlen : xs.length + n ≤ 1099511627776) (hbase : base ≤ w.heap.size)
    (ho : o.op = .call { callee := .builtin .append, args := #[s, x], argTypes := #[32, 32] }) (hs : a.eval s = v) (hx : a.eval x = .slice ad n c)
    (h : ∀ v' w', OwnB w' base v' (xs ++ ys) → w.grownBy w' v.ownBlock → K (a.put o.dst v') w') : if Region.wanted o y = true then Oper.wp Try.prog o a w K Q else K (a.put o.dst undef) w := by
  rw [if_pos hw]
  have hn := hn.out; subst hn
  obtain ⟨v', w', hr, h2, h3, -⟩ := run_appendB hown (c := c) hy hlen hbase o.type
  exact Lib.wp_append_run w s x 32 32 ho _ _ hs hx v' w' hr (h v' w' h2 h3)
/-- append of elements out of a box, at such an operation -/
theorem step_appendRw {w : World} {o : Oper} {a : Go.Act} {K : Go.Act → World → Prop} {Q : Exit → Go.Act → World → Prop} {y : Nat → Option Bool} {s x : Operand} {base k bytes : Nat} {T E : TypeId} {i0 : TypeInfo} {z v : Value} {xs : List (List Value)} {el : List Value} {b c : Nat} (hw : Region.wanted o y = true)
    (ht : Try.prog.underlying T = some (.slice E)) (hi : Try.prog.info? E = some i0) (hz0 : i0.zero = some z) (hz1 : i0.size = k) (hz2 : i0.bytes = bytes) (hzs : z.cells.size = k) (hk : 0 < k) (hbt : bytes ≤ 1000)
    (hown : RowP w base k v xs) (hel : el.length = k ∧ ∀ u ∈ el, u.oneCell' = true) (hc : ∀ j u, el[j]? = some u → w.cell? ⟨b, j, none⟩ = some u) (hl : xs.length + 1 ≤ 1000000) (hbase : base ≤ w.heap.size)
    (ho : o.op = .call { callee := .builtin .append, args := #[s, x], argTypes := #[T, T] }) (hs : a.eval s = v) (hx : a.eval x = .slice (some ⟨b, 0, none⟩) 1 c)
    (h : ∀ v' w', RowP w' base k v' (xs ++ [el]) → Mut (fun g => v.ownBlock = some g) w w' → (∀ g, v'.ownBlock = some g → v.ownBlock = some g ∨ w.heap.size ≤ g) → K (a.put o.dst v') w') : if Region.wanted o y = true then Oper.wp Try.prog o a w K Q else K (a.put o.dst undef) w := by
  rw [if_pos hw]
  obtain ⟨v', w', hr, h2, h3, h4⟩ := hown.append T o.type E i0 z bytes ht hi hz0 hz1 hz2 hzs hk (a := ⟨b, 0, none⟩) (c := c) (ys := [el]) (fun x hx => by rw [List.mem_singleton.1 hx]; exact hel) (fun q u hq => by rw [Addr.add_lit, Nat.zero_add]; exact hc q u (by simpa using hq)) hl hbt hbase
  exact Lib.wp_append_run w s x T T ho _ _ hs hx v' w' hr (h v' w' h2 h3 h4)
theorem wpList_appendRw {w : World} {ops : Array Oper} {rest : List Oper} {o : Oper} {a : Go.Act} {Q : Exit → Go.Act → World → Prop} {s x : Operand} {base k bytes : Nat} {T E : TypeId} {i0 : TypeInfo} {z v : Value} {xs : List (List Value)} {el : List Value} {b c : Nat}
    (ht : Try.prog.underlying T = some (.slice E)) (hi : Try.prog.info? E = some i0) (hz0 : i0.zero = some z) (hz1 : i0.size = k) (hz2 : i0.bytes = bytes) (hzs : z.cells.size = k) (hk : 0 < k) (hbt : bytes ≤ 1000)
    (hown : RowP w base k v xs) (hel : el.length = k ∧ ∀ u ∈ el, u.oneCell' = true) (hc : ∀ j u, el[j]? = some u → w.cell? ⟨b, j, none⟩ = some u) (hl : xs.length + 1 ≤ 1000000) (hbase : base ≤ w.heap.size) (hg : o.guard = none)
    (ho : o.op = .call { callee := .builtin .append, args := #[s, x], argTypes := #[T, T] }) (hs : a.eval s = v) (hx : a.eval x = .slice (some ⟨b, 0, none⟩) 1 c)
    (h : ∀ v' w', RowP w' base k v' (xs ++ [el]) → Mut (fun g => v.ownBlock = some g) w w' → (∀ g, v'.ownBlock = some g → v.ownBlock = some g ∨ w.heap.size ≤ g) → wpList Try.prog ops Q rest (a.put o.dst v') w') : wpList Try.prog ops Q (o :: rest) a w := by
  obtain ⟨v', w', hr, h2, h3, h4⟩ := hown.append T o.type E i0 z bytes ht hi hz0 hz1 hz2 hzs hk (a := ⟨b, 0, none⟩) (c := c) (ys := [el]) (fun x hx => by rw [List.mem_singleton.1 hx]; exact hel) (fun q u hq => by rw [Addr.add_lit, Nat.zero_add]; exact hc q u (by simpa using hq)) hl hbt hbase
  exact Lib.wpList_append_run w hg s x T T ho _ _ hs hx v' w' hr (h v' w' h2 h3 h4)
theorem els2R {x y : Value} (h1 : x.oneCell' = true) (h2 : y.oneCell' = true) : [x, y].length = 2 ∧ ∀ u ∈ [x, y], u.oneCell' = true := ⟨rfl, fun u hu => by
  simp at hu
  rcases hu with rfl | rfl <;> assumption⟩
theorem cells2R {w : World} {b : Nat} {x y : Value} (h1 : w.cell? ⟨b, 0, none⟩ = some x) (h2 : w.cell? ⟨b, 1, none⟩ = some y) : ∀ j u, [x, y][j]? = some u → w.cell? ⟨b, j, none⟩ = some u := fun j u hj => by
  match j, hj with
  | 0, hj => simp at hj; subst hj; exact h1
  | 1, hj => simp at hj; subst hj; exact h2
  | j + 2, hj => simp at hj
theorem below_grownE {B : Nat} {w0 w2 w3 : World} {r : Nat} (hb : Below B w0 w2) (hg : w2.grownBy w3 (some r)) (hr : B ≤ r) (hz : B ≤ w2.heap.size) : Below B w0 w3 :=
  hb.trans ⟨hg.os, hg.tape, hg.output, hg.size, fun k hk => hg.block k (by omega) (by intro e; injection e with e; omega)⟩
def rputC (d : RSnd) (bs : List Nat) : Int := if 4096 < bs.length then 3 else if 128 ≤ d.items.length then 13 else 0
def rputD (d : RSnd) (bs : List Nat) : RSnd := if 4096 < bs.length then d else if 128 ≤ d.items.length then d else { d with items := d.items ++ [(d.puts + 1, bs)], told := d.told ++ [false], puts := d.puts + 1 }
/-- what a call of the sender leaves -/
structure RSndR (w w' : World) (N : Nat → Prop) (s : Nat) (iv tv : Value) (d : RSnd) (iv' tv' : Value) : Prop where
  is : RSndIs w' (fun b => N b ∨ iv'.ownBlock = some b ∨ tv'.ownBlock = some b) s iv' tv' d
  new : ∀ g, iv'.ownBlock = some g ∨ tv'.ownBlock = some g → (iv.ownBlock = some g ∨ tv.ownBlock = some g) ∨ w.heap.size ≤ g
  mt : Mut (fpT s iv tv) w w'
theorem RSndR.same {w w' : World} {N : Nat → Prop} {s : Nat} {iv tv : Value} {d : RSnd} (h : RSndIs w N s iv tv d) (hb : Below w.heap.size w w') : RSndR w w' N s iv tv d iv tv :=
  ⟨(h.ext hb).less (fun b e => .inl (h.fp b e)) (fun b e => .inl (e.elim id fun e => h.fp b (.inr e))), fun _g e => .inl e, Mut.of_below hb⟩
/-- an item more, out of a box -/
theorem rput_item {wA W1 w3 w4 w5 : World} {N : Nat → Prop} {s : Nat} {iv tv v5 u : Value} {d : RSnd} {bs : List Nat} {q : Nat} {xs : List (List Value)} (h : RSndIs wA N s iv tv d) (hN : ∀ b, N b → b < wA.heap.size) (h1 : Below wA.heap.size wA W1) (hb3 : Below W1.heap.size W1 w3) (hu : OwnB w3 W1.heap.size u bs) (hx : ∀ x ∈ bs, x < 256) (hb4 : Below w3.heap.size w3 w4) (hxs : ElsAt wA N xs (d.items.map itemC)) (hrow : RowP w5 0 2 v5 (xs ++ [[.int .u64 q, u]])) (hm : Mut (fun g => iv.ownBlock = some g) w4 w5) (hn : ∀ g, v5.ownBlock = some g → iv.ownBlock = some g ∨ w4.heap.size ≤ g) (hl : d.items.length < 128) (hq : q < 18446744073709551616) :
    (RSndIs (w5.setCell ⟨s, 0, none⟩ v5) (fun b => N b ∨ v5.ownBlock = some b) s v5 tv { d with items := d.items ++ [(q, bs)] } ∧ Mut (fpT s iv tv) wA (w5.setCell ⟨s, 0, none⟩ v5)) ∧ w5.cell? ⟨s, 0, none⟩ = some iv ∧ w5.frozen? ⟨s, 0, none⟩ = false := by
  have hs1 := h1.size
  have hs3 := hb3.size
  have hs4 := hb4.size
  have hbw : Below wA.heap.size wA w4 := h1.trans ((hb3.mono hs1).trans (hb4.mono (by omega)))
  have hmw : Mut (fun g => iv.ownBlock = some g) wA w5 := (Mut.of_below hbw).trans ⟨hm.os, hm.tape, hm.output, hm.size, hm.block⟩
  have hiu : ItemAt w3 (fun b => N b ∨ v5.ownBlock = some b) u bs := ItemAt.own hu hx fun b g1 g2 e => by
    rcases e with e | e
    · have := hN b e; omega
    · rcases hn b e with e | e
      · have := hN b (h.ni b e).1; omega
      · omega
  have hi5 : ItemAt w5 (fun b => N b ∨ v5.ownBlock = some b) u bs := (hiu.ext1 hb4).mut hm fun b _ e => .inl (h.ni b e).1
  have hx5 : ElsAt w5 (fun b => N b ∨ v5.ownBlock = some b) xs (d.items.map itemC) := (hxs.grow (N' := fun b => N b ∨ v5.ownBlock = some b) fun b e => by
    rcases e with e | e
    · exact .inl e
    · rcases hn b e with e | e
      · exact .inl (h.ni b e).1
      · exact .inr (by omega)).mut hmw fun b _ e => .inl (h.ni b e).1
  have hels : ElsAt w5 (fun b => N b ∨ v5.ownBlock = some b) (xs ++ [[.int .u64 q, u]]) ((d.items ++ [(q, bs)]).map itemC) := by
    rw [List.map_append]
    exact hx5.snoc (q := [.int .u64 q]) hi5
  have hR := h.items' hN hmw hrow hels (fun g e => (hn g e).imp id fun e => by omega) (by simp; omega) (fun p hp => by
    rcases List.mem_append.1 hp with hp | hp
    · exact h.bq p hp
    · rw [List.mem_singleton.1 hp]; exact hq)
  exact ⟨⟨hR.1, hR.2.1⟩, hR.2.2.1, hR.2.2.2⟩
set_option maxRecDepth 100000 in
set_option maxHeartbeats 12800000 in
theorem rput_any {w : World} {N : Nat → Prop} {s : Nat} {iv tv : Value} {d : RSnd} {ba : Option Addr} {bc n : Nat} {bs : List Nat} (h : RSndIs w N s iv tv d) (hN : ∀ b, N b → b < w.heap.size) (hl : d.told.length = d.items.length) (hpu : d.puts < 4611686018427387904) (hn : Hid (bs.length = n)) (hnl : n ≤ 549755813888) (hr : ByteRow w ba bs) (hx : ∀ x ∈ bs, x < 256) (hbl : ∀ b off, ba = some ⟨b, off, none⟩ → bs ≠ [] → ¬ fpT s iv tv b) :
    Calls Try.prog 40 #[.pointer (some ⟨s, 0, none⟩), .slice ba n bc] w fun e w' => e = .returned (.int .i64 (rputC d bs)) ∧ ∃ iv' tv', RSndR w w' N s iv tv (rputD d bs) iv' tv' := by
  obtain ⟨ia, ic, hia, -⟩ := h.it_lit
  obtain ⟨ta, tc, hta, -⟩ := h.told_lit
  obtain ⟨m, hm⟩ : ∃ m, d.items.length = m := ⟨_, rfl⟩
  rw [hl, hm] at hta
  rw [hm] at hia
  subst hia
  subst hta
  have c0 := h.box.c0
  by_cases h1 : 4096 < n
  · have t1 : decide ((n : Int) > 4096) = true := decide_eq_true (by omega)
    have t3 : decide (4096 < n) = true := decide_eq_true h1
    have HC : Hid (rputC d bs = 3) := hid (by unfold rputC; rw [hn.out, if_pos h1])
    have HD : Hid (rputD d bs = d) := hid (by unfold rputD; rw [hn.out, if_pos h1])
    have HR := hid (RSndR.same h (Below.refl _ _))
    clear h hr
    go_enter Try.func40, Try.ntmps40
    go_wp2_with fail
    go_ret
    exact ⟨by rw [HC.out]; rfl, _, _, by rw [HD.out]; exact HR.out⟩
  have t1 : decide ((n : Int) > 4096) = false := decide_eq_false (by omega)
  have t3 : decide (4096 < n) = false := decide_eq_false h1
  by_cases h2 : 128 ≤ m
  · have s1 : decide ((m : Int) ≥ 128) = true := decide_eq_true (by omega)
    have s2 : decide (128 ≤ (m : Int)) = true := decide_eq_true (by omega)
    have s3 : decide (128 ≤ m) = true := decide_eq_true h2
    have HC : Hid (rputC d bs = 13) := hid (by unfold rputC; rw [hn.out, if_neg h1, hm, if_pos h2])
    have HD : Hid (rputD d bs = d) := hid (by unfold rputD; rw [hn.out, if_neg h1, hm, if_pos h2])
    have HR := hid (RSndR.same h (Below.refl _ _))
    clear h hr
    go_enter Try.func40, Try.ntmps40
    go_wp2_with fail
    go_ret
    exact ⟨by rw [HC.out]; rfl, _, _, by rw [HD.out]; exact HR.out⟩
  have s1 : decide ((m : Int) ≥ 128) = false := decide_eq_false (by omega)
  have s2 : decide (128 ≤ (m : Int)) = false := decide_eq_false (by omega)
  have s3 : decide (128 ≤ m) = false := decide_eq_false h2
  have HC : Hid (rputC d bs = 0) := hid (by unfold rputC; rw [hn.out, if_neg h1, hm, if_neg h2])
  obtain ⟨q, hq⟩ : ∃ q, d.puts + 1 = q := ⟨_, rfl⟩
  have HD : Hid (rputD d bs = { d with items := d.items ++ [(q, bs)], told := d.told ++ [false], puts := q }) := hid (by unfold rputD; rw [hn.out, if_neg h1, hm, if_neg h2, hq])
  have i1 : IntKind.u64.wrap ((d.puts : Int) + 1) = (q : Int) := by rw [IntKind.wrap_u64]; omega
  have c2 := h.box.c2
  have f2 := h.box.f 2
  obtain ⟨hA, hmA⟩ := h.put2 q
  obtain ⟨wA, hwA⟩ : ∃ wA, w.setCell ⟨s, 2, none⟩ (.int .u64 q) = wA := ⟨_, rfl⟩
  rw [hwA] at hA hmA
  have hrA : ByteRow wA ba bs := hr.mutT hmA fun b off e hne e2 => hbl b off e hne (.inl e2)
  obtain ⟨xs, hxr, hxe⟩ := hA.it
  have HI := hid hA
  have HMA := hid hmA
  have HR : Hid (ByteRow wA.drew ba bs) := hid (hrA.ext (Below.refl _ _).drew)
  have HB1 : Hid (Below wA.heap.size wA wA.drew) := hid (Below.refl _ _).drew
  have HNN := hid hN
  have HN1 : Hid (∀ b, N b → b < wA.heap.size) := hid fun b e => Nat.lt_of_lt_of_le (hN b e) hmA.size
  have HXX := hid hx
  have HEL := hid hxe
  have HXR : Hid (RowP wA.drew 0 2 (.slice ia m ic) xs) := hid (hxr.ext (Below.refl _ _).drew)
  have HML : Hid (d.items.length < 128) := hid (by omega)
  have HQL : Hid (q < 18446744073709551616) := hid (by omega)
  have HXL : Hid (xs.length + 1 ≤ 1000000) := hid (by have := hxe.1; simp at this; omega)
  have HIS : Hid (¬ ((Value.slice ia m ic).ownBlock = some s)) := hid fun e => (h.ni s e).2 rfl
  have HS : Hid (∀ W, Below wA.drew.heap.size wA.drew W → W.cell? ⟨s, 2, none⟩ = some (.int .u64 q) ∧ W.cell? ⟨s, 0, none⟩ = some (.slice ia m ic)) := hid fun W hb => ⟨(hb.cell (by exact hA.box.lt)).trans hA.box.c2, (hb.cell (by exact hA.box.lt)).trans hA.box.c0⟩
  have HMM := hid hm
  have HTL : Hid ((toldC d.told).length + 1 ≤ 1000000) := hid (by simp [toldC]; omega)
  obtain ⟨i0, hi, hz0, hz1, hz2⟩ := info_parts infoIt
  clear h hr hN hx hbl hA hmA hrA hxr hxe h1 h2 hpu hl hm
  go_enter Try.func40, Try.ntmps40
  go_upto_region 6 with fail
  clear t1 t3 s1 s2 s3 c0 c2 f2 hwA i1 hq
  have HS0 := hid (HS.out _ (Below.refl _ _))
  go_cut [35] (fun t wx => ∃ iv', RSndIs wx (fun b => N b ∨ iv'.ownBlock = some b) s iv' (.slice ta m tc) { d with puts := q, items := d.items ++ [(q, bs)] } ∧ (∀ g, iv'.ownBlock = some g → (Value.slice ia m ic).ownBlock = some g ∨ wA.heap.size ≤ g) ∧ Mut (fpT s (.slice ia m ic) (.slice ta m tc)) wA wx)
  case first =>
    refine wp_region_held_drew (S := fun W => W.cell? ⟨s, 2, none⟩ = some (.int .u64 q)) (by kernel_rfl) (HS0.out.1) (fun hHeld => ?_)
    refine wpAnyH_take (i := 0) (oi := _) (v := .pointer (some ⟨s, 0, none⟩)) rfl (by kernel_rfl) (by kernel_rfl) (by kernel_rfl) (fun _ _ _ h => h) (Or.inl ⟨by rfl, ?_⟩) (by assumption) ?_
    · intro W hSw
      try dsimp only at hSw
      go_simp
    try simp only [Act.put, List.getElem_toArray, List.getElem_cons_zero, List.setIfInBounds_toArray, List.set_cons_zero, List.set_cons_succ]
    refine wpAnyH_take (i := 1) (oi := _) (v := .pointer (some ⟨s, 0, none⟩)) rfl (by kernel_rfl) (by kernel_rfl) (by kernel_rfl) (fun _ _ _ h => h) (Or.inl ⟨by rfl, ?_⟩) (by assumption) ?_
    · intro W hSw
      try dsimp only at hSw
      go_simp
    try simp only [Act.put, List.getElem_toArray, List.getElem_cons_succ, List.getElem_cons_zero, List.setIfInBounds_toArray, List.set_cons_zero, List.set_cons_succ]
    refine wpAnyH_take (i := 2) (oi := _) (v := .pointer (some ⟨s, 0, none⟩)) rfl (by kernel_rfl) (by kernel_rfl) (by kernel_rfl) (fun _ _ _ h => h) (Or.inl ⟨by rfl, ?_⟩) (by assumption) ?_
    · intro W hSw
      try dsimp only at hSw
      go_simp
    try simp only [Act.put, List.getElem_toArray, List.getElem_cons_succ, List.getElem_cons_zero, List.setIfInBounds_toArray, List.set_cons_zero, List.set_cons_succ]
    refine wpAnyH_take (i := 3) (oi := _) (v := .pointer (some ⟨s, 0, none⟩)) rfl (by kernel_rfl) (by kernel_rfl) (by kernel_rfl) (fun _ _ _ h => h) (Or.inl ⟨by rfl, ?_⟩) (by assumption) ?_
    · intro W hSw
      try dsimp only at hSw
      go_simp
    try simp only [Act.put, List.getElem_toArray, List.getElem_cons_succ, List.getElem_cons_zero, List.setIfInBounds_toArray, List.set_cons_zero, List.set_cons_succ]
    refine wpAnyH_take (i := 5) (oi := _) (v := .pointer (some ⟨s, 0, none⟩)) rfl (by kernel_rfl) (by kernel_rfl) (by kernel_rfl) (fun _ _ _ h => h) (Or.inl ⟨by rfl, ?_⟩) (by assumption) ?_
    · intro W hSw
      try dsimp only at hSw
      go_simp
    try simp only [Act.put, List.getElem_toArray, List.getElem_cons_succ, List.getElem_cons_zero, List.setIfInBounds_toArray, List.set_cons_zero, List.set_cons_succ]
    refine wpAnyH_take (i := 6) (oi := _) (v := .pointer (some ⟨s, 0, none⟩)) rfl (by kernel_rfl) (by kernel_rfl) (by kernel_rfl) (fun _ _ _ h => h) (Or.inl ⟨by rfl, ?_⟩) (by assumption) ?_
    · intro W hSw
      try dsimp only at hSw
      go_simp
    try simp only [Act.put, List.getElem_toArray, List.getElem_cons_succ, List.getElem_cons_zero, List.setIfInBounds_toArray, List.set_cons_zero, List.set_cons_succ]
    refine wpAnyH_take (i := 7) (oi := _) (v := .pointer (some ⟨s, 2, none⟩)) rfl (by kernel_rfl) (by kernel_rfl) (by kernel_rfl) (fun _ _ _ h => h) (Or.inl ⟨by rfl, ?_⟩) (by assumption) ?_
    · intro W hSw
      try dsimp only at hSw
      go_simp
    try simp only [Act.put, List.getElem_toArray, List.getElem_cons_succ, List.getElem_cons_zero, List.setIfInBounds_toArray, List.set_cons_zero, List.set_cons_succ]
    refine wpAnyH_take (i := 8) (oi := _) (v := .int .u64 q) rfl (by kernel_rfl) (by kernel_rfl) (by kernel_rfl) (fun _ _ _ h => h) (Or.inl ⟨by rfl, ?_⟩) (by assumption) ?_
    · intro W hSw
      try dsimp only at hSw
      go_simp
    try simp only [Act.put, List.getElem_toArray, List.getElem_cons_succ, List.getElem_cons_zero, List.setIfInBounds_toArray, List.set_cons_zero, List.set_cons_succ]
    refine wpAnyH_take (i := 10) (oi := _) (v := .slice ba n bc) rfl (by kernel_rfl) (by kernel_rfl) (by kernel_rfl) (fun _ _ _ h => h) (Or.inl ⟨by rfl, ?_⟩) (by assumption) ?_
    · intro W hSw
      try dsimp only at hSw
      go_simp
    try simp only [Act.put, List.getElem_toArray, List.getElem_cons_succ, List.getElem_cons_zero, List.setIfInBounds_toArray, List.set_cons_zero, List.set_cons_succ]
    refine wpAnyH_ready (rs := [4, 9]) (by kernel_rfl) (by simp) ?_
    refine AllReadyH.cons (o := _) rfl (fun K hK => ?_) (AllReadyH.cons (o := _) rfl (fun K hK => ?_) AllReadyH.nil)
    · have hld := HS0.out.2
      go_simp
      clear hld
      refine hK.out _ _ (HS0.out.1) (fun hHeld => ?_)
      clear hK K
      try simp only [Act.put, List.getElem_toArray, List.getElem_cons_succ, List.getElem_cons_zero, List.setIfInBounds_toArray, List.set_cons_zero, List.set_cons_succ]
      refine wpAnyH_ready (rs := [9]) (by kernel_rfl) (by simp) ?_
      refine AllReadyH.cons (o := _) rfl (fun K hK => ?_) AllReadyH.nil
      go_simp
      rw [show (wA.alloc (.cells #[] 5)).drew = wA.drew.alloc (.cells #[] 5) from rfl]
      obtain ⟨w2, hw2⟩ : ∃ w2, wA.drew.alloc (.cells #[] 5) = w2 := ⟨_, rfl⟩
      rw [hw2]
      have hb2 : Below wA.drew.heap.size wA.drew w2 := by rw [← hw2]; exact (Below.refl _ _).alloc (Nat.le_refl _) _
      have HE : Hid (OwnB w2 wA.drew.heap.size (.slice (some ⟨wA.drew.heap.size, 0, none⟩) 0 0) []) := hid (by rw [← hw2]; exact OwnB.empty _ _ (Nat.le_refl _))
      have HB2 := hid hb2
      have HS2 := hid (HS.out w2 hb2)
      clear hb2 hw2
      refine hK.out _ _ (HS2.out.1) (fun hHeld => ?_)
      clear hK K
      try simp only [Act.put, List.getElem_toArray, List.getElem_cons_succ, List.getElem_cons_zero, List.setIfInBounds_toArray, List.set_cons_zero, List.set_cons_succ]
      refine wpAnyH_ready (rs := [11]) (by kernel_rfl) (by simp) ?_
      refine AllReadyH.cons (o := _) rfl (fun K hK => ?_) AllReadyH.nil
      refine step_appendBy (by rfl) HE.out (HR.out.ext HB2.out) hn (by simp; omega) HB2.out.size rfl rfl rfl ?_
      intro u w3 hown3 hg3
      simp only [List.nil_append] at hown3
      obtain ⟨ua, uc, ue, -, -⟩ := id hown3.row
      rw [hn.out] at ue
      subst ue
      have hb3 : Below wA.drew.heap.size wA.drew w3 := below_grownE HB2.out hg3 (Nat.le_refl _) HB2.out.size
      have HU : Hid (OwnB w3 wA.drew.heap.size (.slice ua n uc) bs) := hid hown3
      have HB3 := hid hb3
      have HS3 := hid (HS.out w3 hb3)
      clear hown3 hg3 hb3
      refine hK.out _ _ (HS3.out.1) (fun hHeld => ?_)
      clear hK K
      try simp only [Act.put, List.getElem_toArray, List.getElem_cons_succ, List.getElem_cons_zero, List.setIfInBounds_toArray, List.set_cons_zero, List.set_cons_succ]
      refine wpAnyH_take (i := 12) (oi := _) (v := .agg #[.int .u64 q, .slice ua n uc]) rfl (by kernel_rfl) (by kernel_rfl) (by kernel_rfl) (fun _ _ _ h => h) (Or.inl ⟨by rfl, ?_⟩) (by assumption) ?_
      · intro W hSw
        try dsimp only at hSw
        go_simp
      try simp only [Act.put, List.getElem_toArray, List.getElem_cons_succ, List.getElem_cons_zero, List.setIfInBounds_toArray, List.set_cons_zero, List.set_cons_succ]
      refine wpAnyH_ready (rs := [13]) (by kernel_rfl) (by simp) ?_
      refine AllReadyH.cons (o := _) rfl (fun K hK => ?_) AllReadyH.nil
      go_simp
      obtain ⟨w4, hw4⟩ : ∃ w4, w3.alloc (.cells #[.int .u64 q, .slice ua n uc] 85) = w4 := ⟨_, rfl⟩
      rw [hw4]
      have hb34 : Below w3.heap.size w3 w4 := by rw [← hw4]; exact (Below.refl _ _).alloc (Nat.le_refl _) _
      have HB34 := hid hb34
      have HS4 := hid (HS.out w4 (HB3.out.trans (hb34.mono HB3.out.size)))
      have HQ4 : Hid (w4.cell? ⟨w3.heap.size, 0, none⟩ = some (.int .u64 q) ∧ w4.cell? ⟨w3.heap.size, 1, none⟩ = some (.slice ua n uc)) := hid (by rw [← hw4]; exact ⟨by simp, by simp⟩)
      clear hb34 hw4
      refine hK.out _ _ (HS4.out.1) (fun hHeld => ?_)
      clear hK K
      try simp only [Act.put, List.getElem_toArray, List.getElem_cons_succ, List.getElem_cons_zero, List.setIfInBounds_toArray, List.set_cons_zero, List.set_cons_succ]
      refine wpAnyH_ready (rs := [14]) (by kernel_rfl) (by simp) ?_
      refine AllReadyH.cons (o := _) rfl (fun K hK => ?_) AllReadyH.nil
      refine step_appendRw (by rfl) Try.underlying65 hi hz0 hz1 hz2 rfl (by decide) (by decide) (HXR.out.ext (HB3.out.trans (HB34.out.mono HB3.out.size))) (els2R rfl rfl) (cells2R HQ4.out.1 HQ4.out.2) HXL.out (Nat.zero_le _) rfl rfl rfl ?_
      intro v5 w5 hrow5 hm5 hn5
      obtain ⟨a8, c8, e8, -⟩ := hrow5.sli
      obtain ⟨n8, hn8⟩ : ∃ n8, (xs ++ [[Value.int .u64 q, .slice ua n uc]]).length = n8 := ⟨_, rfl⟩
      rw [hn8] at e8
      subst e8
      have hpp := rput_item HI.out HN1.out HB1.out HB3.out HU.out HXX.out HB34.out HEL.out hrow5 hm5 hn5 HML.out HQL.out
      have HPP := hid hpp.1
      have HFF := hid hpp.2.2
      have HSF : Hid (w5.cell? ⟨s, 2, none⟩ = some (.int .u64 q) ∧ w5.cell? ⟨s, 0, none⟩ = some (.slice ia m ic)) := hid ⟨(hm5.cell (p := ⟨s, 2, none⟩) (by exact World.block_lt_of_cell? _ _ HS4.out.1) (by exact HIS.out)).trans HS4.out.1, hpp.2.1⟩
      have HSG : Hid ((w5.setCell ⟨s, 0, none⟩ (.slice a8 n8 c8)).cell? ⟨s, 2, none⟩ = some (.int .u64 q)) := hid (by rw [cellOff (by omega)]; exact HSF.out.1)
      have HN5 : Hid (∀ g, (Value.slice a8 n8 c8).ownBlock = some g → (Value.slice ia m ic).ownBlock = some g ∨ wA.heap.size ≤ g) := hid fun g e => (hn5 g e).imp id fun e => Nat.le_trans (Nat.le_trans HB1.out.size (Nat.le_trans HB3.out.size HB34.out.size)) e
      clear hrow5 hm5 hn5 hn8 hpp
      refine hK.out _ _ (HSF.out.1) (fun hHeld => ?_)
      clear hK K
      try simp only [Act.put, List.getElem_toArray, List.getElem_cons_succ, List.getElem_cons_zero, List.setIfInBounds_toArray, List.set_cons_zero, List.set_cons_succ]
      refine wpAnyH_ready (rs := [15]) (by kernel_rfl) (by simp) ?_
      refine AllReadyH.cons (o := _) rfl (fun K hK => ?_) AllReadyH.nil
      go_simp
      refine hK.out _ _ (HSF.out.1) (fun hHeld => ?_)
      clear hK K
      try simp only [Act.put, List.getElem_toArray, List.getElem_cons_succ, List.getElem_cons_zero, List.setIfInBounds_toArray, List.set_cons_zero, List.set_cons_succ]
      refine wpAnyH_ready (rs := [16]) (by kernel_rfl) (by simp) ?_
      refine AllReadyH.cons (o := _) rfl (fun K hK => ?_) AllReadyH.nil
      go_simp
      refine hK.out _ _ (HSF.out.1) (fun hHeld => ?_)
      clear hK K
      try simp only [Act.put, List.getElem_toArray, List.getElem_cons_succ, List.getElem_cons_zero, List.setIfInBounds_toArray, List.set_cons_zero, List.set_cons_succ]
      refine wpAnyH_ready (rs := [17]) (by kernel_rfl) (by simp) ?_
      refine AllReadyH.cons (o := _) rfl (fun K hK => ?_) AllReadyH.nil
      have ks := HSF.out.2
      have kf := HFF.out
      go_simp
      refine hK.out _ _ (HSG.out) (fun hHeld => ?_)
      clear hK K
      try simp only [Act.put, List.getElem_toArray, List.getElem_cons_succ, List.getElem_cons_zero, List.setIfInBounds_toArray, List.set_cons_zero, List.set_cons_succ]
      refine wpAnyH_done (by kernel_rfl) ?_ _
      go_wp2_with fail
      go_meet
      exact ⟨_, HPP.out.1, HN5.out, HPP.out.2⟩
    · go_simp
      rw [show (wA.alloc (.cells #[] 5)).drew = wA.drew.alloc (.cells #[] 5) from rfl]
      obtain ⟨w2, hw2⟩ : ∃ w2, wA.drew.alloc (.cells #[] 5) = w2 := ⟨_, rfl⟩
      rw [hw2]
      have hb2 : Below wA.drew.heap.size wA.drew w2 := by rw [← hw2]; exact (Below.refl _ _).alloc (Nat.le_refl _) _
      have HE : Hid (OwnB w2 wA.drew.heap.size (.slice (some ⟨wA.drew.heap.size, 0, none⟩) 0 0) []) := hid (by rw [← hw2]; exact OwnB.empty _ _ (Nat.le_refl _))
      have HB2 := hid hb2
      have HS2 := hid (HS.out w2 hb2)
      clear hb2 hw2
      refine hK.out _ _ (HS2.out.1) (fun hHeld => ?_)
      clear hK K
      try simp only [Act.put, List.getElem_toArray, List.getElem_cons_succ, List.getElem_cons_zero, List.setIfInBounds_toArray, List.set_cons_zero, List.set_cons_succ]
      refine wpAnyH_ready (rs := [4, 11]) (by kernel_rfl) (by simp) ?_
      refine AllReadyH.cons (o := _) rfl (fun K hK => ?_) (AllReadyH.cons (o := _) rfl (fun K hK => ?_) AllReadyH.nil)
      · have hld := HS2.out.2
        go_simp
        clear hld
        refine hK.out _ _ (HS2.out.1) (fun hHeld => ?_)
        clear hK K
        try simp only [Act.put, List.getElem_toArray, List.getElem_cons_succ, List.getElem_cons_zero, List.setIfInBounds_toArray, List.set_cons_zero, List.set_cons_succ]
        refine wpAnyH_ready (rs := [11]) (by kernel_rfl) (by simp) ?_
        refine AllReadyH.cons (o := _) rfl (fun K hK => ?_) AllReadyH.nil
        refine step_appendBy (by rfl) HE.out (HR.out.ext HB2.out) hn (by simp; omega) HB2.out.size rfl rfl rfl ?_
        intro u w3 hown3 hg3
        simp only [List.nil_append] at hown3
        obtain ⟨ua, uc, ue, -, -⟩ := id hown3.row
        rw [hn.out] at ue
        subst ue
        have hb3 : Below wA.drew.heap.size wA.drew w3 := below_grownE HB2.out hg3 (Nat.le_refl _) HB2.out.size
        have HU : Hid (OwnB w3 wA.drew.heap.size (.slice ua n uc) bs) := hid hown3
        have HB3 := hid hb3
        have HS3 := hid (HS.out w3 hb3)
        clear hown3 hg3 hb3
        refine hK.out _ _ (HS3.out.1) (fun hHeld => ?_)
        clear hK K
        try simp only [Act.put, List.getElem_toArray, List.getElem_cons_succ, List.getElem_cons_zero, List.setIfInBounds_toArray, List.set_cons_zero, List.set_cons_succ]
        refine wpAnyH_take (i := 12) (oi := _) (v := .agg #[.int .u64 q, .slice ua n uc]) rfl (by kernel_rfl) (by kernel_rfl) (by kernel_rfl) (fun _ _ _ h => h) (Or.inl ⟨by rfl, ?_⟩) (by assumption) ?_
        · intro W hSw
          try dsimp only at hSw
          go_simp
        try simp only [Act.put, List.getElem_toArray, List.getElem_cons_succ, List.getElem_cons_zero, List.setIfInBounds_toArray, List.set_cons_zero, List.set_cons_succ]
        refine wpAnyH_ready (rs := [13]) (by kernel_rfl) (by simp) ?_
        refine AllReadyH.cons (o := _) rfl (fun K hK => ?_) AllReadyH.nil
        go_simp
        obtain ⟨w4, hw4⟩ : ∃ w4, w3.alloc (.cells #[.int .u64 q, .slice ua n uc] 85) = w4 := ⟨_, rfl⟩
        rw [hw4]
        have hb34 : Below w3.heap.size w3 w4 := by rw [← hw4]; exact (Below.refl _ _).alloc (Nat.le_refl _) _
        have HB34 := hid hb34
        have HS4 := hid (HS.out w4 (HB3.out.trans (hb34.mono HB3.out.size)))
        have HQ4 : Hid (w4.cell? ⟨w3.heap.size, 0, none⟩ = some (.int .u64 q) ∧ w4.cell? ⟨w3.heap.size, 1, none⟩ = some (.slice ua n uc)) := hid (by rw [← hw4]; exact ⟨by simp, by simp⟩)
        clear hb34 hw4
        refine hK.out _ _ (HS4.out.1) (fun hHeld => ?_)
        clear hK K
        try simp only [Act.put, List.getElem_toArray, List.getElem_cons_succ, List.getElem_cons_zero, List.setIfInBounds_toArray, List.set_cons_zero, List.set_cons_succ]
        refine wpAnyH_ready (rs := [14]) (by kernel_rfl) (by simp) ?_
        refine AllReadyH.cons (o := _) rfl (fun K hK => ?_) AllReadyH.nil
        refine step_appendRw (by rfl) Try.underlying65 hi hz0 hz1 hz2 rfl (by decide) (by decide) (HXR.out.ext (HB3.out.trans (HB34.out.mono HB3.out.size))) (els2R rfl rfl) (cells2R HQ4.out.1 HQ4.out.2) HXL.out (Nat.zero_le _) rfl rfl rfl ?_
        intro v5 w5 hrow5 hm5 hn5
        obtain ⟨a8, c8, e8, -⟩ := hrow5.sli
        obtain ⟨n8, hn8⟩ : ∃ n8, (xs ++ [[Value.int .u64 q, .slice ua n uc]]).length = n8 := ⟨_, rfl⟩
        rw [hn8] at e8
        subst e8
        have hpp := rput_item HI.out HN1.out HB1.out HB3.out HU.out HXX.out HB34.out HEL.out hrow5 hm5 hn5 HML.out HQL.out
        have HPP := hid hpp.1
        have HFF := hid hpp.2.2
        have HSF : Hid (w5.cell? ⟨s, 2, none⟩ = some (.int .u64 q) ∧ w5.cell? ⟨s, 0, none⟩ = some (.slice ia m ic)) := hid ⟨(hm5.cell (p := ⟨s, 2, none⟩) (by exact World.block_lt_of_cell? _ _ HS4.out.1) (by exact HIS.out)).trans HS4.out.1, hpp.2.1⟩
        have HSG : Hid ((w5.setCell ⟨s, 0, none⟩ (.slice a8 n8 c8)).cell? ⟨s, 2, none⟩ = some (.int .u64 q)) := hid (by rw [cellOff (by omega)]; exact HSF.out.1)
        have HN5 : Hid (∀ g, (Value.slice a8 n8 c8).ownBlock = some g → (Value.slice ia m ic).ownBlock = some g ∨ wA.heap.size ≤ g) := hid fun g e => (hn5 g e).imp id fun e => Nat.le_trans (Nat.le_trans HB1.out.size (Nat.le_trans HB3.out.size HB34.out.size)) e
        clear hrow5 hm5 hn5 hn8 hpp
        refine hK.out _ _ (HSF.out.1) (fun hHeld => ?_)
        clear hK K
        try simp only [Act.put, List.getElem_toArray, List.getElem_cons_succ, List.getElem_cons_zero, List.setIfInBounds_toArray, List.set_cons_zero, List.set_cons_succ]
        refine wpAnyH_ready (rs := [15]) (by kernel_rfl) (by simp) ?_
        refine AllReadyH.cons (o := _) rfl (fun K hK => ?_) AllReadyH.nil
        go_simp
        refine hK.out _ _ (HSF.out.1) (fun hHeld => ?_)
        clear hK K
        try simp only [Act.put, List.getElem_toArray, List.getElem_cons_succ, List.getElem_cons_zero, List.setIfInBounds_toArray, List.set_cons_zero, List.set_cons_succ]
        refine wpAnyH_ready (rs := [16]) (by kernel_rfl) (by simp) ?_
        refine AllReadyH.cons (o := _) rfl (fun K hK => ?_) AllReadyH.nil
        go_simp
        refine hK.out _ _ (HSF.out.1) (fun hHeld => ?_)
        clear hK K
        try simp only [Act.put, List.getElem_toArray, List.getElem_cons_succ, List.getElem_cons_zero, List.setIfInBounds_toArray, List.set_cons_zero, List.set_cons_succ]
        refine wpAnyH_ready (rs := [17]) (by kernel_rfl) (by simp) ?_
        refine AllReadyH.cons (o := _) rfl (fun K hK => ?_) AllReadyH.nil
        have ks := HSF.out.2
        have kf := HFF.out
        go_simp
        refine hK.out _ _ (HSG.out) (fun hHeld => ?_)
        clear hK K
        try simp only [Act.put, List.getElem_toArray, List.getElem_cons_succ, List.getElem_cons_zero, List.setIfInBounds_toArray, List.set_cons_zero, List.set_cons_succ]
        refine wpAnyH_done (by kernel_rfl) ?_ _
        go_wp2_with fail
        go_meet
        exact ⟨_, HPP.out.1, HN5.out, HPP.out.2⟩
      · refine step_appendBy (by rfl) HE.out (HR.out.ext HB2.out) hn (by simp; omega) HB2.out.size rfl rfl rfl ?_
        intro u w3 hown3 hg3
        simp only [List.nil_append] at hown3
        obtain ⟨ua, uc, ue, -, -⟩ := id hown3.row
        rw [hn.out] at ue
        subst ue
        have hb3 : Below wA.drew.heap.size wA.drew w3 := below_grownE HB2.out hg3 (Nat.le_refl _) HB2.out.size
        have HU : Hid (OwnB w3 wA.drew.heap.size (.slice ua n uc) bs) := hid hown3
        have HB3 := hid hb3
        have HS3 := hid (HS.out w3 hb3)
        clear hown3 hg3 hb3
        refine hK.out _ _ (HS3.out.1) (fun hHeld => ?_)
        clear hK K
        try simp only [Act.put, List.getElem_toArray, List.getElem_cons_succ, List.getElem_cons_zero, List.setIfInBounds_toArray, List.set_cons_zero, List.set_cons_succ]
        refine wpAnyH_take (i := 12) (oi := _) (v := .agg #[.int .u64 q, .slice ua n uc]) rfl (by kernel_rfl) (by kernel_rfl) (by kernel_rfl) (fun _ _ _ h => h) (Or.inl ⟨by rfl, ?_⟩) (by assumption) ?_
        · intro W hSw
          try dsimp only at hSw
          go_simp
        try simp only [Act.put, List.getElem_toArray, List.getElem_cons_succ, List.getElem_cons_zero, List.setIfInBounds_toArray, List.set_cons_zero, List.set_cons_succ]
        refine wpAnyH_ready (rs := [4, 13]) (by kernel_rfl) (by simp) ?_
        refine AllReadyH.cons (o := _) rfl (fun K hK => ?_) (AllReadyH.cons (o := _) rfl (fun K hK => ?_) AllReadyH.nil)
        · have hld := HS3.out.2
          go_simp
          clear hld
          refine hK.out _ _ (HS3.out.1) (fun hHeld => ?_)
          clear hK K
          try simp only [Act.put, List.getElem_toArray, List.getElem_cons_succ, List.getElem_cons_zero, List.setIfInBounds_toArray, List.set_cons_zero, List.set_cons_succ]
          refine wpAnyH_ready (rs := [13]) (by kernel_rfl) (by simp) ?_
          refine AllReadyH.cons (o := _) rfl (fun K hK => ?_) AllReadyH.nil
          go_simp
          obtain ⟨w4, hw4⟩ : ∃ w4, w3.alloc (.cells #[.int .u64 q, .slice ua n uc] 85) = w4 := ⟨_, rfl⟩
          rw [hw4]
          have hb34 : Below w3.heap.size w3 w4 := by rw [← hw4]; exact (Below.refl _ _).alloc (Nat.le_refl _) _
          have HB34 := hid hb34
          have HS4 := hid (HS.out w4 (HB3.out.trans (hb34.mono HB3.out.size)))
          have HQ4 : Hid (w4.cell? ⟨w3.heap.size, 0, none⟩ = some (.int .u64 q) ∧ w4.cell? ⟨w3.heap.size, 1, none⟩ = some (.slice ua n uc)) := hid (by rw [← hw4]; exact ⟨by simp, by simp⟩)
          clear hb34 hw4
          refine hK.out _ _ (HS4.out.1) (fun hHeld => ?_)
          clear hK K
          try simp only [Act.put, List.getElem_toArray, List.getElem_cons_succ, List.getElem_cons_zero, List.setIfInBounds_toArray, List.set_cons_zero, List.set_cons_succ]
          refine wpAnyH_ready (rs := [14]) (by kernel_rfl) (by simp) ?_
          refine AllReadyH.cons (o := _) rfl (fun K hK => ?_) AllReadyH.nil
          refine step_appendRw (by rfl) Try.underlying65 hi hz0 hz1 hz2 rfl (by decide) (by decide) (HXR.out.ext (HB3.out.trans (HB34.out.mono HB3.out.size))) (els2R rfl rfl) (cells2R HQ4.out.1 HQ4.out.2) HXL.out (Nat.zero_le _) rfl rfl rfl ?_
          intro v5 w5 hrow5 hm5 hn5
          obtain ⟨a8, c8, e8, -⟩ := hrow5.sli
          obtain ⟨n8, hn8⟩ : ∃ n8, (xs ++ [[Value.int .u64 q, .slice ua n uc]]).length = n8 := ⟨_, rfl⟩
          rw [hn8] at e8
          subst e8
          have hpp := rput_item HI.out HN1.out HB1.out HB3.out HU.out HXX.out HB34.out HEL.out hrow5 hm5 hn5 HML.out HQL.out
          have HPP := hid hpp.1
          have HFF := hid hpp.2.2
          have HSF : Hid (w5.cell? ⟨s, 2, none⟩ = some (.int .u64 q) ∧ w5.cell? ⟨s, 0, none⟩ = some (.slice ia m ic)) := hid ⟨(hm5.cell (p := ⟨s, 2, none⟩) (by exact World.block_lt_of_cell? _ _ HS4.out.1) (by exact HIS.out)).trans HS4.out.1, hpp.2.1⟩
          have HSG : Hid ((w5.setCell ⟨s, 0, none⟩ (.slice a8 n8 c8)).cell? ⟨s, 2, none⟩ = some (.int .u64 q)) := hid (by rw [cellOff (by omega)]; exact HSF.out.1)
          have HN5 : Hid (∀ g, (Value.slice a8 n8 c8).ownBlock = some g → (Value.slice ia m ic).ownBlock = some g ∨ wA.heap.size ≤ g) := hid fun g e => (hn5 g e).imp id fun e => Nat.le_trans (Nat.le_trans HB1.out.size (Nat.le_trans HB3.out.size HB34.out.size)) e
          clear hrow5 hm5 hn5 hn8 hpp
          refine hK.out _ _ (HSF.out.1) (fun hHeld => ?_)
          clear hK K
          try simp only [Act.put, List.getElem_toArray, List.getElem_cons_succ, List.getElem_cons_zero, List.setIfInBounds_toArray, List.set_cons_zero, List.set_cons_succ]
          refine wpAnyH_ready (rs := [15]) (by kernel_rfl) (by simp) ?_
          refine AllReadyH.cons (o := _) rfl (fun K hK => ?_) AllReadyH.nil
          go_simp
          refine hK.out _ _ (HSF.out.1) (fun hHeld => ?_)
          clear hK K
          try simp only [Act.put, List.getElem_toArray, List.getElem_cons_succ, List.getElem_cons_zero, List.setIfInBounds_toArray, List.set_cons_zero, List.set_cons_succ]
          refine wpAnyH_ready (rs := [16]) (by kernel_rfl) (by simp) ?_
          refine AllReadyH.cons (o := _) rfl (fun K hK => ?_) AllReadyH.nil
          go_simp
          refine hK.out _ _ (HSF.out.1) (fun hHeld => ?_)
          clear hK K
          try simp only [Act.put, List.getElem_toArray, List.getElem_cons_succ, List.getElem_cons_zero, List.setIfInBounds_toArray, List.set_cons_zero, List.set_cons_succ]
          refine wpAnyH_ready (rs := [17]) (by kernel_rfl) (by simp) ?_
          refine AllReadyH.cons (o := _) rfl (fun K hK => ?_) AllReadyH.nil
          have ks := HSF.out.2
          have kf := HFF.out
          go_simp
          refine hK.out _ _ (HSG.out) (fun hHeld => ?_)
          clear hK K
          try simp only [Act.put, List.getElem_toArray, List.getElem_cons_succ, List.getElem_cons_zero, List.setIfInBounds_toArray, List.set_cons_zero, List.set_cons_succ]
          refine wpAnyH_done (by kernel_rfl) ?_ _
          go_wp2_with fail
          go_meet
          exact ⟨_, HPP.out.1, HN5.out, HPP.out.2⟩
        · go_simp
          obtain ⟨w4, hw4⟩ : ∃ w4, w3.alloc (.cells #[.int .u64 q, .slice ua n uc] 85) = w4 := ⟨_, rfl⟩
          rw [hw4]
          have hb34 : Below w3.heap.size w3 w4 := by rw [← hw4]; exact (Below.refl _ _).alloc (Nat.le_refl _) _
          have HB34 := hid hb34
          have HS4 := hid (HS.out w4 (HB3.out.trans (hb34.mono HB3.out.size)))
          have HQ4 : Hid (w4.cell? ⟨w3.heap.size, 0, none⟩ = some (.int .u64 q) ∧ w4.cell? ⟨w3.heap.size, 1, none⟩ = some (.slice ua n uc)) := hid (by rw [← hw4]; exact ⟨by simp, by simp⟩)
          clear hb34 hw4
          refine hK.out _ _ (HS4.out.1) (fun hHeld => ?_)
          clear hK K
          try simp only [Act.put, List.getElem_toArray, List.getElem_cons_succ, List.getElem_cons_zero, List.setIfInBounds_toArray, List.set_cons_zero, List.set_cons_succ]
          refine wpAnyH_ready (rs := [4]) (by kernel_rfl) (by simp) ?_
          refine AllReadyH.cons (o := _) rfl (fun K hK => ?_) AllReadyH.nil
          have hld := HS4.out.2
          go_simp
          clear hld
          refine hK.out _ _ (HS4.out.1) (fun hHeld => ?_)
          clear hK K
          try simp only [Act.put, List.getElem_toArray, List.getElem_cons_succ, List.getElem_cons_zero, List.setIfInBounds_toArray, List.set_cons_zero, List.set_cons_succ]
          refine wpAnyH_ready (rs := [14]) (by kernel_rfl) (by simp) ?_
          refine AllReadyH.cons (o := _) rfl (fun K hK => ?_) AllReadyH.nil
          refine step_appendRw (by rfl) Try.underlying65 hi hz0 hz1 hz2 rfl (by decide) (by decide) (HXR.out.ext (HB3.out.trans (HB34.out.mono HB3.out.size))) (els2R rfl rfl) (cells2R HQ4.out.1 HQ4.out.2) HXL.out (Nat.zero_le _) rfl rfl rfl ?_
          intro v5 w5 hrow5 hm5 hn5
          obtain ⟨a8, c8, e8, -⟩ := hrow5.sli
          obtain ⟨n8, hn8⟩ : ∃ n8, (xs ++ [[Value.int .u64 q, .slice ua n uc]]).length = n8 := ⟨_, rfl⟩
          rw [hn8] at e8
          subst e8
          have hpp := rput_item HI.out HN1.out HB1.out HB3.out HU.out HXX.out HB34.out HEL.out hrow5 hm5 hn5 HML.out HQL.out
          have HPP := hid hpp.1
          have HFF := hid hpp.2.2
          have HSF : Hid (w5.cell? ⟨s, 2, none⟩ = some (.int .u64 q) ∧ w5.cell? ⟨s, 0, none⟩ = some (.slice ia m ic)) := hid ⟨(hm5.cell (p := ⟨s, 2, none⟩) (by exact World.block_lt_of_cell? _ _ HS4.out.1) (by exact HIS.out)).trans HS4.out.1, hpp.2.1⟩
          have HSG : Hid ((w5.setCell ⟨s, 0, none⟩ (.slice a8 n8 c8)).cell? ⟨s, 2, none⟩ = some (.int .u64 q)) := hid (by rw [cellOff (by omega)]; exact HSF.out.1)
          have HN5 : Hid (∀ g, (Value.slice a8 n8 c8).ownBlock = some g → (Value.slice ia m ic).ownBlock = some g ∨ wA.heap.size ≤ g) := hid fun g e => (hn5 g e).imp id fun e => Nat.le_trans (Nat.le_trans HB1.out.size (Nat.le_trans HB3.out.size HB34.out.size)) e
          clear hrow5 hm5 hn5 hn8 hpp
          refine hK.out _ _ (HSF.out.1) (fun hHeld => ?_)
          clear hK K
          try simp only [Act.put, List.getElem_toArray, List.getElem_cons_succ, List.getElem_cons_zero, List.setIfInBounds_toArray, List.set_cons_zero, List.set_cons_succ]
          refine wpAnyH_ready (rs := [15]) (by kernel_rfl) (by simp) ?_
          refine AllReadyH.cons (o := _) rfl (fun K hK => ?_) AllReadyH.nil
          go_simp
          refine hK.out _ _ (HSF.out.1) (fun hHeld => ?_)
          clear hK K
          try simp only [Act.put, List.getElem_toArray, List.getElem_cons_succ, List.getElem_cons_zero, List.setIfInBounds_toArray, List.set_cons_zero, List.set_cons_succ]
          refine wpAnyH_ready (rs := [16]) (by kernel_rfl) (by simp) ?_
          refine AllReadyH.cons (o := _) rfl (fun K hK => ?_) AllReadyH.nil
          go_simp
          refine hK.out _ _ (HSF.out.1) (fun hHeld => ?_)
          clear hK K
          try simp only [Act.put, List.getElem_toArray, List.getElem_cons_succ, List.getElem_cons_zero, List.setIfInBounds_toArray, List.set_cons_zero, List.set_cons_succ]
          refine wpAnyH_ready (rs := [17]) (by kernel_rfl) (by simp) ?_
          refine AllReadyH.cons (o := _) rfl (fun K hK => ?_) AllReadyH.nil
          have ks := HSF.out.2
          have kf := HFF.out
          go_simp
          refine hK.out _ _ (HSG.out) (fun hHeld => ?_)
          clear hK K
          try simp only [Act.put, List.getElem_toArray, List.getElem_cons_succ, List.getElem_cons_zero, List.setIfInBounds_toArray, List.set_cons_zero, List.set_cons_succ]
          refine wpAnyH_done (by kernel_rfl) ?_ _
          go_wp2_with fail
          go_meet
          exact ⟨_, HPP.out.1, HN5.out, HPP.out.2⟩
  case rest =>
  obtain ⟨iv', hI2, hn2, hm2⟩ := hcut
  rename World => wB
  have c1 := hI2.box.c1
  have hbC : Below wB.heap.size wB (wB.alloc (.cells #[.bool false] 4)) := (Below.refl _ _).alloc (Nat.le_refl _) _
  have HI2 := hid (hI2.ext hbC)
  have HBC := hid hbC
  have HN2 := hid hn2
  have HM2 := hid hm2
  obtain ⟨j0, hj, jz0, jz1, jz2⟩ := info_parts infoBo
  clear hI2 hn2 hm2 hbC hi hz0 hz1 hz2 HEL HXR HXL HR HB1 HS HS0
  go_wp2_with (at_builtin; refine wpList_appendRw Try.underlying23 hj jz0 jz1 jz2 rfl (by decide) (by decide) HI2.out.tl (el := [.bool false]) (b := wB.heap.size) ⟨rfl, fun u hu => by rw [List.mem_singleton.1 hu]; rfl⟩ (fun j u hu => by have h0 : j = 0 := (by have := (List.getElem?_eq_some_iff.1 hu).1; simpa using this); subst h0; simp at hu; subst hu; simp) HTL.out (Nat.zero_le _) rfl rfl rfl rfl ?_; intro v7 w7 hrow7 hm7 hn7; obtain ⟨a7, c7, e7, -⟩ := hrow7.sli; obtain ⟨n7, hn7'⟩ : ∃ n7, (toldC d.told ++ [[Value.bool false]]).length = n7 := ⟨_, rfl⟩; rw [hn7'] at e7; subst e7; have hT := HI2.out.told' (tl' := d.told ++ [false]) hm7 (by unfold toldC at *; rw [List.map_append]; exact hrow7) hn7; have k7 := hT.2.2.1; have f7 := hT.2.2.2; have HT1 := hid hT.1; have HT2 := hid hT.2.1; have HN7 := hid hn7; clear hT hrow7 hm7 hn7 hn7')
  go_ret
  have hsz : w.heap.size ≤ wA.heap.size := HMA.out.size
  have hsz2 : wA.heap.size ≤ wB.heap.size := HM2.out.size
  have hnw : ∀ g, iv'.ownBlock = some g ∨ (Value.slice a7 n7 c7).ownBlock = some g → ((Value.slice ia m ic).ownBlock = some g ∨ (Value.slice ta m tc).ownBlock = some g) ∨ w.heap.size ≤ g := fun g e => by
    rcases e with e | e
    · rcases HN2.out g e with e | e
      · exact .inl (.inl e)
      · exact .inr (by omega)
    · rcases HN7.out g e with e | e
      · exact .inl (.inr e)
      · have h9 := HBC.out.size
        exact .inr (by omega)
  refine ⟨by rw [HC.out]; rfl, iv', _, ⟨?_, hnw, ?_⟩⟩
  · rw [HD.out]
    exact HT1.out.less (fun b e => by
      rcases e with e | e | e
      · rw [e]
        rcases HT1.out.ns with (e | e) | e
        · exact .inl e
        · exact .inr (.inl e)
        · exact .inr (.inr e)
      · exact .inr (.inl e)
      · exact .inr (.inr e)) (fun b e => by
      rcases e with e | e | e
      · exact .inl (.inl (.inl e))
      · exact .inl (.inl (.inr e))
      · exact .inl (.inr e))
  · refine ((HMA.out.mono fun k _ e => (show fpT s _ _ k from .inl e)).trans (HM2.out.mono fun k _ e => e)).transG ((Mut.of_below HBC.out).trans HT2.out) fun k hk e => ?_
    rcases e with e | e | e
    · exact .inl e
    · rcases HN2.out k e with e | e
      · exact .inr (.inl e)
      · omega
    · exact .inr (.inr e)
end Go.Proofs.Ytidohmpnefcpcaa

