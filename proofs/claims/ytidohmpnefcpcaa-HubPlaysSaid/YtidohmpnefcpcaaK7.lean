/- Parts of the proof: K7. -/
import Derived.Shelf.Spec.TrailingZeros
import Derived.Test.YtidohmpnefcpcaaGHubPlays1
namespace Go.Proofs.Ytidohmpnefcpcaa
open Go.RowKit
/-! ### window: Due -/
theorem infoIt : (Try.prog.info? 85).map (fun i => (i.zero, i.size, i.bytes)) = some (some (.agg #[.int .u64 0, .slice none 0 0]), 2, 32) := by kernel_rfl
/-- what Due leaves -/
structure DueR (w w' : World) (N : Nat → Prop) (s : Nat) (wv : Value) (us : List Value) (d : SndD) (v : Value) (xs : List (List Value)) : Prop where
  row : OwnK w' w.heap.size 85 2 v xs
  els : ElsAt w' (fun b => N b ∨ v.ownBlock = some b) xs ((dueI d).map itemC)
  is : SndIs w' N s wv us (dueD d)
  mt : Mut (fun b => b = s) w w'
theorem bits_told {a k : Nat} (ha : a < 4294967296) : (bits BinOp.and IntKind.u32 ((a : Int) / 2 ^ k) 1 == 0) = !(a.testBit k) := by
  have e : ((a : Int) / 2 ^ k) = ((a / 2 ^ k : Nat) : Int) := by simp
  have h1 : a / 2 ^ k < 4294967296 := Nat.lt_of_le_of_lt (Nat.div_le_self _ _) ha
  rw [e, show (1 : Int) = ((1 : Nat) : Int) from rfl, bits_and_u32_nat _ _ h1 (by decide)]
  have h2 := @testBit_and a k
  cases h : a.testBit k
  · rw [h] at h2
    have h3 : (a / 2 ^ k) &&& 1 = 0 := h2.mpr rfl
    rw [h3]; rfl
  · rw [h] at h2
    have h3 : ¬ ((a / 2 ^ k) &&& 1 = 0) := fun e => by have := h2.mp e; cases this
    cases h4 : (((a / 2 ^ k) &&& 1 : Nat) : Int) == 0
    · rfl
    · exfalso
      have h5 : (((a / 2 ^ k) &&& 1 : Nat) : Int) = 0 := eq_of_beq h4
      omega
theorem SndIs.less {w : World} {N N' : Nat → Prop} {s : Nat} {wv : Value} {us : List Value} {d : SndD} (h : SndIs w N s wv us d) (hs : N' s) (hw : ∀ g, wv.ownBlock = some g → N' g) (h2 : ∀ b, N' b → N b ∨ w.heap.size ≤ b) : SndIs w N' s wv us d :=
  ⟨h.box, h.row, h.it.grow h2, hs, fun g e => ⟨hw g e, (h.nw g e).2⟩, h.b0, h.b2, h.b3, h.b4, h.b5, h.bl⟩
theorem dueL_step {f k : Nat} {d : SndD} (hf : k < f) : dueL (f - k) k d = if d.told.testBit k then dueL (f - (k + 1)) (k + 1) d else k :: dueL (f - (k + 1)) (k + 1) (dueStep d k) := by
  rw [show f - k = (f - (k + 1)) + 1 by omega]; rfl
theorem dueE_step {f k : Nat} {d : SndD} (hf : k < f) : dueE (f - k) k d = if d.told.testBit k then dueE (f - (k + 1)) (k + 1) d else dueE (f - (k + 1)) (k + 1) (dueStep d k) := by
  rw [show f - k = (f - (k + 1)) + 1 by omega]; rfl
/-- append of an item at an operation of a region that draws -/
theorem step_appendIt {w : World} {o : Oper} {a : Go.Act} {K : Go.Act → World → Prop} {Q : Exit → Go.Act → World → Prop} {y : Nat → Option Bool} {s x : Operand} {base : Nat} {v q u : Value} {xs : List (List Value)} {b c : Nat} (hw : Region.wanted o y = true) (hown : OwnK w base 85 2 v xs) (h0 : w.cell? ⟨b, 0, none⟩ = some q) (h1 : w.cell? ⟨b, 1, none⟩ = some u) (hq : q.oneCell' = true) (hu : u.oneCell' = true)
    (hl : xs.length + 1 ≤ 1000000) (hbase : base ≤ w.heap.size)
    (ho : o.op = .call { callee := .builtin .append, args := #[s, x], argTypes := #[65, 65] }) (hs : a.eval s = v) (hx : a.eval x = .slice (some ⟨b, 0, none⟩) 1 c)
    (h : ∀ v' w', OwnK w' base 85 2 v' (xs ++ [[q, u]]) → Mut (fun g => v.ownBlock = some g) w w' → (∀ g, v'.ownBlock = some g → v.ownBlock = some g ∨ w.heap.size ≤ g) → K (a.put o.dst v') w') : if Region.wanted o y = true then Oper.wp Try.prog o a w K Q else K (a.put o.dst undef) w := by
  rw [if_pos hw]
  obtain ⟨i0, hi, hz0, hz1, hz2⟩ := info_parts infoIt
  obtain ⟨v', w', hr, h2, h3, h4, -⟩ := hown.append (c := c) (x := [q, u]) (b := b) 65 o.type i0 _ 32 Try.underlying65 hi hz0 hz1 hz2 rfl (by decide) rfl (fun y hy => by
    simp at hy; rcases hy with rfl | rfl <;> assumption) (fun j y hj => by
    match j, hj with
    | 0, hj => simp at hj; subst hj; exact h0
    | 1, hj => simp at hj; subst hj; exact h1
    | j + 2, hj => simp at hj) hl (by decide) hbase
  exact Lib.wp_append_run w s x 65 65 ho _ _ hs hx v' w' hr (h v' w' h2 h3 h4)
theorem Mut.transG {F G : Nat → Prop} {a b c : World} (h : Mut F a b) (k : Mut G b c) (hG : ∀ i, i < a.heap.size → G i → F i) : Mut F a c :=
  ⟨k.os.trans h.os, k.tape.trans h.tape, k.output.trans h.output, Nat.le_trans h.size k.size, fun i hi hf => (k.block i (Nat.lt_of_lt_of_le hi h.size) fun e => hf (hG i hi e)).trans (h.block i hi hf)⟩
theorem due_put {w wr w2 w4 : World} {N : Nat → Prop} {s q bl : Nat} {wv u3 v4 ua uc : _} {us : List Value} {D : SndD} {xs : List (List Value)} {ps : List (List Value × List Nat)} {bs : List Nat} {z : Int} (HO : OwnK wr w.heap.size 85 2 u3 xs) (HX : ElsAt wr (fun b => N b ∨ u3.ownBlock = some b) xs ps) (HS : SndIs wr (fun b => N b ∨ w.heap.size ≤ b) s wv us D) (HM : Mut (fun b => b = s) w wr) (hN : ∀ b, N b → b < w.heap.size)
    (hb2 : Below wr.heap.size wr w2) (hown : OwnB w2 wr.drew.heap.size (.slice ua bl uc) bs) (hby : ∀ x ∈ bs, x < 256) (hm : Mut (fun g => u3.ownBlock = some g) w2 w4) (hn : ∀ g, v4.ownBlock = some g → u3.ownBlock = some g ∨ w2.heap.size ≤ g) (hrow : OwnK w4 w.heap.size 85 2 v4 (xs ++ [[.int .u64 z, .slice ua bl uc]])) (hq : z = (q : Int)) (hs : s < w.heap.size) (hnw : ∀ g, wv.ownBlock = some g → N g ∧ g ≠ s) :
    OwnK w4 w.heap.size 85 2 v4 (xs ++ [[.int .u64 z, .slice ua bl uc]]) ∧ ElsAt w4 (fun b => N b ∨ v4.ownBlock = some b) (xs ++ [[.int .u64 z, .slice ua bl uc]]) (ps ++ [([.int .u64 q], bs)]) ∧ SndIs w4 (fun b => N b ∨ w.heap.size ≤ b) s wv us D ∧ Mut (fun b => b = s) w w4 := by
  have hz1 := HM.size
  have hz2 := hb2.size
  have hown' : OwnB w2 wr.heap.size (.slice ua bl uc) bs := hown
  have hmr : Mut (fun g => u3.ownBlock = some g) wr w4 := (Mut.of_below hb2).trans ⟨hm.os, hm.tape, hm.output, hm.size, hm.block⟩
  have h3 : ElsAt w4 (fun b => N b ∨ v4.ownBlock = some b) xs ps := by
    have g1 : ElsAt wr (fun b => N b ∨ u3.ownBlock = some b ∨ v4.ownBlock = some b) xs ps := HX.grow fun b e => (by
      rcases e with e | e | e
      · exact .inl (.inl e)
      · exact .inl (.inr e)
      · rcases hn b e with e | e
        · exact .inl (.inr e)
        · exact .inr (by omega))
    exact (g1.mut hmr fun b _ e => .inr (.inl e)).grow fun b e => .inl (e.imp id .inr)
  have h4 : ItemAt w4 (fun b => N b ∨ v4.ownBlock = some b) (.slice ua bl uc) bs := by
    have g1 : ItemAt w2 (fun b => N b ∨ u3.ownBlock = some b ∨ v4.ownBlock = some b) (.slice ua bl uc) bs := ItemAt.own hown' hby fun b h1 h2 e => by
      rcases e with e | e | e
      · have := hN b e; omega
      · have := (HO.blk e).2; omega
      · rcases hn b e with e | e
        · have := (HO.blk e).2; omega
        · omega
    exact (g1.mut hm fun b _ e => .inr (.inl e)).grow fun b e => .inl (e.imp id .inr)
  refine ⟨hrow, ?_, ?_, ?_⟩
  · have := h3.snoc (q := [.int .u64 q]) h4
    rw [hq]
    simpa using this
  · refine HS.mut hmr (fun b _ e => .inr (HO.blk e).1) fun b e e2 => ?_
    have h1 := (HO.blk e2).1
    rcases e with e | e
    · omega
    · have := hN b (hnw b e).1; omega
  · exact HM.transG hmr fun b hb e => (by have := (HO.blk e).1; omega)
theorem or_bit {a k : Nat} (ha : a < 4294967296) (hk : k < 16) : bits BinOp.or IntKind.u32 (a : Int) (2 ^ k % 4294967296) = ((a ||| 2 ^ k : Nat) : Int) ∧ a ||| 2 ^ k < 4294967296 := by
  have h2 : (2 : Nat) ^ k < 2 ^ 32 := Nat.pow_lt_pow_right (by decide) (by omega)
  have e : ((2 : Int) ^ k % 4294967296) = ((2 ^ k : Nat) : Int) := by
    have h3 : ((2 : Int) ^ k) = ((2 ^ k : Nat) : Int) := by simp
    rw [h3]
    have h4 : (2 : Nat) ^ 32 = 4294967296 := by decide
    rw [h4] at h2
    obtain ⟨p, hp⟩ : ∃ p, (2 : Nat) ^ k = p := ⟨_, rfl⟩
    rw [hp] at h2 ⊢
    omega
  rw [e]
  have hwr : ∀ n : Int, 0 ≤ n → n < 2 ^ 32 → IntKind.u32.wrap n = n := fun n h0 h1 => by
    rw [IntKind.wrap_u32]
    have : (2 : Int) ^ 32 = 4294967296 := by decide
    omega
  exact ⟨(bits_nat .u32 32 (by decide) hwr a (2 ^ k) ha h2).2, Nat.or_lt_two_pow (n := 32) ha h2⟩
theorem wrap_nat (n : Int) : IntKind.u64.wrap n = (((IntKind.u64.wrap n).toNat : Nat) : Int) ∧ (IntKind.u64.wrap n).toNat < 18446744073709551616 := by
  have h := wrap_within .u64 n
  have h1 : 0 ≤ IntKind.u64.wrap n := h.1
  have h2 : IntKind.u64.wrap n ≤ 18446744073709551615 := h.2
  omega
theorem due_set0 {wx : World} {N : Nat → Prop} {s k : Nat} {wv : Value} {us : List Value} {D : SndD} (h : SndIs wx N s wv us D) (hk : k < 16) (hev : D.ever.testBit k = false) :
    SndIs (((wx.setCell ⟨s, 2, none⟩ (.int .u32 (bits BinOp.or IntKind.u32 (D.told : Int) (2 ^ k % 4294967296)))).setCell ⟨s, 3, none⟩ (.int .u32 (bits BinOp.or IntKind.u32 (D.ever : Int) (2 ^ k % 4294967296)))).setCell ⟨s, 4, none⟩ (.int .u64 (IntKind.u64.wrap ((D.once : Int) + 1)))) N s wv us (dueStep D k) ∧
    Mut (fun b => b = s) wx (((wx.setCell ⟨s, 2, none⟩ (.int .u32 (bits BinOp.or IntKind.u32 (D.told : Int) (2 ^ k % 4294967296)))).setCell ⟨s, 3, none⟩ (.int .u32 (bits BinOp.or IntKind.u32 (D.ever : Int) (2 ^ k % 4294967296)))).setCell ⟨s, 4, none⟩ (.int .u64 (IntKind.u64.wrap ((D.once : Int) + 1)))) := by
  obtain ⟨e1, l1⟩ := or_bit h.b2 hk
  obtain ⟨e2, l2⟩ := or_bit h.b3 hk
  obtain ⟨e3, l3⟩ := wrap_nat ((D.once : Int) + 1)
  have hm : Mut (fun b => b = s) wx (((wx.setCell ⟨s, 2, none⟩ (.int .u32 (bits BinOp.or IntKind.u32 (D.told : Int) (2 ^ k % 4294967296)))).setCell ⟨s, 3, none⟩ (.int .u32 (bits BinOp.or IntKind.u32 (D.ever : Int) (2 ^ k % 4294967296)))).setCell ⟨s, 4, none⟩ (.int .u64 (IntKind.u64.wrap ((D.once : Int) + 1)))) := (mut1.trans mut1).trans mut1
  have hb := ((h.box.set2 (.int .u32 (bits BinOp.or IntKind.u32 (D.told : Int) (2 ^ k % 4294967296)))).set3 (.int .u32 (bits BinOp.or IntKind.u32 (D.ever : Int) (2 ^ k % 4294967296)))).set4 (.int .u64 (IntKind.u64.wrap ((D.once : Int) + 1)))
  refine ⟨?_, hm⟩
  have ed : dueStep D k = { D with told := D.told ||| 2 ^ k, ever := D.ever ||| 2 ^ k, once := (IntKind.u64.wrap ((D.once : Int) + 1)).toNat } := by unfold dueStep; rw [hev]; rfl
  rw [ed]
  refine ⟨?_, h.row.mutN hm fun g e e2 => (h.nw g e).2 e2, h.it.mut hm fun b _ e => (by rw [show b = s from e]; exact h.ns), h.ns, h.nw, h.b0, l1, l2, l3, h.b5, h.bl⟩
  rw [e1, e2] at hb ⊢
  rw [← e3]
  exact hb
theorem due_set1 {wx : World} {N : Nat → Prop} {s k : Nat} {wv : Value} {us : List Value} {D : SndD} (h : SndIs wx N s wv us D) (hk : k < 16) (hev : D.ever.testBit k = true) :
    SndIs ((wx.setCell ⟨s, 2, none⟩ (.int .u32 (bits BinOp.or IntKind.u32 (D.told : Int) (2 ^ k % 4294967296)))).setCell ⟨s, 5, none⟩ (.int .u64 (IntKind.u64.wrap ((D.more : Int) + 1)))) N s wv us (dueStep D k) ∧
    Mut (fun b => b = s) wx ((wx.setCell ⟨s, 2, none⟩ (.int .u32 (bits BinOp.or IntKind.u32 (D.told : Int) (2 ^ k % 4294967296)))).setCell ⟨s, 5, none⟩ (.int .u64 (IntKind.u64.wrap ((D.more : Int) + 1)))) := by
  obtain ⟨e1, l1⟩ := or_bit h.b2 hk
  obtain ⟨e3, l3⟩ := wrap_nat ((D.more : Int) + 1)
  have hm : Mut (fun b => b = s) wx ((wx.setCell ⟨s, 2, none⟩ (.int .u32 (bits BinOp.or IntKind.u32 (D.told : Int) (2 ^ k % 4294967296)))).setCell ⟨s, 5, none⟩ (.int .u64 (IntKind.u64.wrap ((D.more : Int) + 1)))) := mut1.trans mut1
  have hb := (h.box.set2 (.int .u32 (bits BinOp.or IntKind.u32 (D.told : Int) (2 ^ k % 4294967296)))).set5 (.int .u64 (IntKind.u64.wrap ((D.more : Int) + 1)))
  refine ⟨?_, hm⟩
  have ed : dueStep D k = { D with told := D.told ||| 2 ^ k, more := (IntKind.u64.wrap ((D.more : Int) + 1)).toNat } := by unfold dueStep; rw [hev]; rfl
  rw [ed]
  refine ⟨?_, h.row.mutN hm fun g e e2 => (h.nw g e).2 e2, h.it.mut hm fun b _ e => (by rw [show b = s from e]; exact h.ns), h.ns, h.nw, h.b0, l1, h.b3, h.b4, l3, h.bl⟩
  rw [e1] at hb ⊢
  rw [← e3]
  exact hb
theorem due_end {w wr : World} {N : Nat → Prop} {s n m k : Nat} {wv u3 : Value} {us : List Value} {d D : SndD} {xs : List (List Value)} {dn : List Nat} (HO : Hid (OwnK wr w.heap.size 85 2 u3 xs)) (HX : Hid (ElsAt wr (fun b => N b ∨ u3.ownBlock = some b) xs ((dn.map (itemD d)).map itemC))) (HS : Hid (SndIs wr (fun b => N b ∨ w.heap.size ≤ b) s wv us D)) (HM : Hid (Mut (fun b => b = s) w wr))
    (HL : Hid (dueL m 0 d = dn ++ dueL (m - k) k D)) (HQ : Hid (dueE m 0 d = dueE (m - k) k D)) (HKK : Hid (k = m)) (HMN : Hid (d.wait.length = n)) (HMM : Hid (min n 16 = m)) (HI : Hid (SndIs w N s wv us d)) (HNN : Hid (∀ b, N b → b < w.heap.size)) :
    ∃ v xs, Ending.returned u3 = .returned v ∧ DueR w wr N s wv us d v xs := by
  have e1 : dueI d = dn.map (itemD d) := by
    unfold dueI
    rw [HMN.out, HMM.out, HL.out, HKK.out, Nat.sub_self]
    simp [dueL]
  have e2 : dueD d = D := by
    unfold dueD
    rw [HMN.out, HMM.out, HQ.out, HKK.out, Nat.sub_self]
    rfl
  refine ⟨u3, xs, rfl, HO.out, by rw [e1]; exact HX.out, ?_, HM.out⟩
  rw [e2]
  exact HS.out.less HI.out.ns (fun g e => (HI.out.nw g e).1) fun b e => .inl (.inl e)
set_option maxRecDepth 100000 in
set_option maxHeartbeats 6400000 in
theorem wdue_any {w : World} {N : Nat → Prop} {s : Nat} {wv : Value} {us : List Value} {d : SndD} (h : SndIs w N s wv us d) (hb : d.base ≤ 4611686018427387904) (hN : ∀ b, N b → b < w.heap.size) (hlen : ∀ b ∈ d.wait, b.length ≤ 549755813888) :
    Calls Try.prog 35 #[.pointer (some ⟨s, 0, none⟩)] w fun e w' => ∃ v xs, e = .returned v ∧ DueR w w' N s wv us d v xs := by
  obtain ⟨a, c, hlit, hlc⟩ := h.lit
  obtain ⟨n, hn⟩ : ∃ n, d.wait.length = n := ⟨_, rfl⟩
  rw [hn] at hlit hlc
  subst hlit
  obtain ⟨m, hm⟩ : ∃ m, min n 16 = m := ⟨_, rfl⟩
  have HI := hid h
  have HNN := hid hN
  have HLE := hid hlen
  have HSZ : Hid (∃ z, z = w.heap.size) := hid ⟨_, rfl⟩
  have HD : Hid (dueL m 0 d = [] ++ dueL (m - 0) 0 d) := hid (by simp)
  have HE : Hid (dueE m 0 d = dueE (m - 0) 0 d) := hid (by simp)
  have HMN := hid hn
  have HMM : Hid (min n 16 = m) := hid hm
  clear h hN hlen hn hm
  go_enter Try.func35, Try.ntmps35
  go_wp2_with fail
  go_loopw [3, 4] (fun v i wr => ∃ (k : Nat) (xs : List (List Value)) (dn : List Nat) (D : SndD), i = .int .i64 k ∧ k ≤ m ∧ Hid (OwnK wr w.heap.size 85 2 v xs) ∧ Hid (ElsAt wr (fun b => N b ∨ v.ownBlock = some b) xs ((dn.map (itemD d)).map itemC)) ∧ Hid (SndIs wr (fun b => N b ∨ w.heap.size ≤ b) s (.slice a n c) us D) ∧ Hid (Mut (fun b => b = s) w wr) ∧ Hid (dueL m 0 d = dn ++ dueL (m - k) k D) ∧ Hid (dueE m 0 d = dueE (m - k) k D) ∧ Hid (D.base = d.base ∧ D.wait = d.wait) ∧ Hid (dn.length ≤ k)) (fun _ i _ => m - (intOf i).toNat)
  case atStart =>
    exact ⟨0, [], [], d, rfl, Nat.zero_le _, hid (OwnK.nil _ _ _ _), hid (ElsAt.nil _ _), hid (HI.out.grow (fun b e => .inl e) fun b e => e), hid (Mut.refl _ _), HD, HE, hid ⟨rfl, rfl⟩, hid (Nat.le_refl _)⟩
  case round =>
    obtain ⟨k, xs, dn, D, rfl, hkm, HO, HX, HS, HM, HL, HQ, HB, HDL⟩ := hrel
    by_cases hlt : k < m
    · have hkn : k < n := by have := HMM.out; omega
      have hk16 : k < 16 := by have := HMM.out; omega
      have t1 : decide ((k : Int) < (n : Int)) = true := decide_eq_true (by omega)
      have t2 : decide (k < n) = true := decide_eq_true hkn
      have t3 : decide ((k : Int) < 16) = true := decide_eq_true (by omega)
      have t4 : decide (k < 16) = true := decide_eq_true hk16
      have q0 := HS.out.box.c0
      have q1 := HS.out.box.c1
      have q2 := HS.out.box.c2
      have q3 := HS.out.box.c3
      have q4 := HS.out.box.c4
      have q5 := HS.out.box.c5
      have hfz := HS.out.box.f
      have f2 := hfz 2
      have f3 := hfz 3
      have f4 := hfz 4
      have f5 := hfz 5
      clear hfz
      cases hbit : D.told.testBit k
      · have tb : (bits BinOp.and IntKind.u32 ((D.told : Int) / 2 ^ k) 1 == 0) = true := by rw [bits_told HS.out.b2, hbit]; rfl
        have HK16 : Hid (k < 16) := hid hk16
        have HKM := hid hlt
        have HL1 := hid (dueL_step (d := D) hlt)
        have HE1 := hid (dueE_step (d := D) hlt)
        rw [hbit] at HL1 HE1
        have HBIT := hid hbit
        clear hbit
        have hwk : k < D.wait.length := by rw [HB.out.2, HMN.out]; exact hkn
        obtain ⟨uk, hu1, hu2⟩ := HS.out.it.2 k hwk
        obtain ⟨ga, oa, ca, ea, hca, hga⟩ := HS.out.row.at hu1
        injection ea with ea1 ea2 ea3
        subst ea1
        obtain ⟨au, cu, rfl, hrow, hby, -⟩ := id hu2
        obtain ⟨bs, hbs⟩ : ∃ bs, D.wait[k] = bs := ⟨_, rfl⟩
        rw [hbs] at hrow hby hu2 hca
        have hbl : bs.length ≤ 549755813888 := HLE.out bs (by rw [← HB.out.2, ← hbs]; exact List.getElem_mem _)
        obtain ⟨bl, hbl2⟩ : ∃ bl, bs.length = bl := ⟨_, rfl⟩
        rw [hbl2] at hca hbl
        have HBL : Hid (bs.length = bl) := hid hbl2
        have HBS : Hid (itemD d k = (D.base + k, bs)) := hid (by unfold itemD; rw [← HB.out.1, ← HB.out.2, ← hbs]; congr 1; rw [List.getD_eq_getElem?_getD, List.getElem?_eq_getElem hwk]; rfl)
        have HBY := hid hby
        have CL : Hid (∀ W, Mut (fun g => u3.ownBlock = some g) wr W → Calls Try.prog 51 #[.slice au bl cu] W fun e w' => ∃ v, e = .returned v ∧ OwnB w' W.heap.size v bs ∧ Below W.heap.size W w') := hid fun W hm => by
          have h2 := hu2.mut hm fun b _ e => .inr (HO.out.blk e).1
          obtain ⟨a2, c2, e2, hr2, -⟩ := h2
          rw [HBL.out] at e2
          cases e2
          exact cloneB_any HBL.out hbl hr2
        have HS0 : Hid (∀ W, Mut (fun g => u3.ownBlock = some g) wr W → W.cell? ⟨s, 0, none⟩ = some (.int .u64 D.base) ∧ W.cell? ⟨s, 1, none⟩ = some (.slice (some ⟨ga, oa, none⟩) n c) ∧ W.cell? ⟨ga, oa + k, none⟩ = some (.slice au bl cu)) := hid fun W hm => by
          have hns : ¬ (u3.ownBlock = some s) := fun e => by have h1 := (HO.out.blk e).1; have h2 := HI.out.box.lt; omega
          have hng : ¬ (u3.ownBlock = some ga) := fun e => by have h1 := (HO.out.blk e).1; have h2 := HNN.out ga (HI.out.nw ga rfl).1; omega
          exact ⟨(hm.cell (by exact HS.out.box.lt) hns).trans q0, (hm.cell (by exact HS.out.box.lt) hns).trans q1, (hm.cell (by exact hga) hng).trans hca⟩
        have i1 : IntKind.u64.wrap ((D.base : Int) + (k : Int)) = (D.base : Int) + (k : Int) := by rw [IntKind.wrap_u64]; have := HB.out.1; omega
        have HK1 : Hid (IntKind.u64.wrap (k : Int) = (k : Int)) := hid (by rw [IntKind.wrap_u64]; omega)
        have HXL : Hid (xs.length + 1 ≤ 1000000) := hid (by have h1 := HX.out.1; simp at h1; have := HDL.out; omega)
        have HWB : Hid (w.heap.size ≤ wr.heap.size) := hid HM.out.size
        have HM0 : Hid (Mut (fun g => u3.ownBlock = some g) wr wr.drew) := hid (Mut.of_below (Below.refl _ _).drew)
        clear hbs hrow hby hu2 hbl hbl2 hu1 hwk ea2 ea3 hca hga q3 q4 q5 f2 f3 f4 f5
        go_upto_region 8 with fail
        clear q2
        go_cut [3] (fun v wx => ∃ xs' : List (List Value), Hid (OwnK wx w.heap.size 85 2 v xs') ∧ Hid (ElsAt wx (fun b => N b ∨ v.ownBlock = some b) xs' (((dn ++ [k]).map (itemD d)).map itemC)) ∧ Hid (SndIs wx (fun b => N b ∨ w.heap.size ≤ b) s (.slice (some ⟨ga, oa, none⟩) n c) us D) ∧ Hid (Mut (fun b => b = s) w wx))
        case first =>
          go_region_held3 (fun W => Mut (fun g => u3.ownBlock = some g) wr W ∧ W.cell? ⟨s, 0, none⟩ = some (.int .u64 D.base) ∧ W.cell? ⟨s, 1, none⟩ = some (.slice (some ⟨ga, oa, none⟩) n c) ∧ W.cell? ⟨ga, oa + k, none⟩ = some (.slice au bl cu)) (first | exact ⟨HM0.out, HS0.out _ HM0.out⟩ | exact ⟨‹_›, HS0.out _ ‹_›⟩ | exact ⟨Mut.trans ‹_› (Mut.of_below ((Below.refl _ _).alloc (Nat.le_refl _) _)), HS0.out _ (Mut.trans ‹_› (Mut.of_below ((Below.refl _ _).alloc (Nat.le_refl _) _)))⟩) (first
            | (go_at_call 51; refine (CL.out _ (by first | assumption | exact HM0.out)).mono ?_; rintro e w2 ⟨u, rfl, hown, hb2⟩; obtain ⟨ua, uc, ue, -, -⟩ := id hown.row; rw [HBL.out] at ue; subst ue; have hbw2 : Below wr.heap.size wr w2 := (Below.refl _ _).drew.trans hb2; have hmw2 : Mut (fun g => u3.ownBlock = some g) wr w2 := Mut.of_below hbw2)
            | (refine step_appendIt (base := w.heap.size) (b := w2.heap.size) (by rfl) (HO.out.ext (hbw2.alloc hbw2.size _)) (q := .int .u64 ((D.base : Int) + (k : Int))) (u := .slice ua bl uc) (by simp [HK1.out, i1]) (by simp) rfl rfl HXL.out (Nat.le_trans HWB.out (hbw2.alloc hbw2.size _).size) rfl rfl rfl ?_; intro v4 w4 hown4 hm4 hn4; have hmw4 : Mut (fun g => u3.ownBlock = some g) wr w4 := (hmw2.trans (Mut.of_below ((Below.refl _ _).alloc (Nat.le_refl _) _))).trans ⟨hm4.os, hm4.tape, hm4.output, hm4.size, hm4.block⟩))
          go_wp2_with fail
          go_meet
          have hz3 : w2.heap.size ≤ (w2.alloc (.cells #[.int .u64 (IntKind.u64.wrap ((D.base : Int) + IntKind.u64.wrap (k : Int))), .slice ua bl uc] 85)).heap.size := ((Below.refl _ _).alloc (Nat.le_refl _) _).size
          have hm24 : Mut (fun g => u3.ownBlock = some g) w2 w4 := (Mut.of_below ((Below.refl _ _).alloc (Nat.le_refl _) _)).trans ⟨hm4.os, hm4.tape, hm4.output, hm4.size, hm4.block⟩
          obtain ⟨r1, r2, r3, r4⟩ := due_put HO.out HX.out HS.out HM.out HNN.out hbw2 hown HBY.out hm24 (fun g e => (hn4 g e).imp id fun h => Nat.le_trans hz3 h) hown4 (q := D.base + k) (by simp) HI.out.box.lt HI.out.nw
          exact ⟨_, hid r1, hid (by rw [List.map_append, List.map_append]; simpa [HBS.out, itemC] using r2), hid r3, hid r4⟩
        case rest =>
          obtain ⟨xs2, HO2, HX2, HS2, HM2⟩ := hcut
          rename World => wx
          clear q0 q1 i1 HK1 HS0 CL HM0 HXL HWB HO HX HS HM
          have q2 := HS2.out.box.c2
          have q3 := HS2.out.box.c3
          have q4 := HS2.out.box.c4
          have q5 := HS2.out.box.c5
          have hfz := HS2.out.box.f
          have f2 := hfz 2
          have f3 := hfz 3
          have f4 := hfz 4
          have f5 := hfz 5
          clear hfz
          cases hev : D.ever.testBit k
          · have te : (bits BinOp.and IntKind.u32 ((D.ever : Int) / 2 ^ k) 1 == 0) = true := by rw [bits_told HS2.out.b3, hev]; rfl
            have HEV := hid hev
            clear hev
            go_wp2_with fail
            go_roundw
            case rel =>
              obtain ⟨g1, g2⟩ := due_set0 HS2.out HK16.out HEV.out
              have hss := HI.out.box.lt
              have ho : ∀ b, b = s → ¬ (u3.ownBlock = some b) := fun b e e2 => (by have := (HO2.out.blk e2).1; omega)
              exact ⟨k + 1, xs2, dn ++ [k], dueStep D k, by go_num, by have := HKM.out; omega, hid (HO2.out.mut g2 fun g e e2 => ho g e2 e), hid (HX2.out.mut g2 fun b _ e => .inl (by rw [show b = s from e]; exact HI.out.ns)), hid g1, hid (HM2.out.trans g2), hid (by rw [HL.out, HL1.out]; simp), hid (by rw [HQ.out, HE1.out]; rfl), hid ⟨(dueStep_base D k).1.trans HB.out.1, (dueStep_base D k).2.trans HB.out.2⟩, hid (by have := HDL.out; simp; omega)⟩
            case measure => simp [intOf]; omega
          · have te : (bits BinOp.and IntKind.u32 ((D.ever : Int) / 2 ^ k) 1 == 0) = false := by rw [bits_told HS2.out.b3, hev]; rfl
            have HEV := hid hev
            clear hev
            go_wp2_with fail
            go_roundw
            case rel =>
              obtain ⟨g1, g2⟩ := due_set1 HS2.out HK16.out HEV.out
              have hss := HI.out.box.lt
              have ho : ∀ b, b = s → ¬ (u3.ownBlock = some b) := fun b e e2 => (by have := (HO2.out.blk e2).1; omega)
              exact ⟨k + 1, xs2, dn ++ [k], dueStep D k, by go_num, by have := HKM.out; omega, hid (HO2.out.mut g2 fun g e e2 => ho g e2 e), hid (HX2.out.mut g2 fun b _ e => .inl (by rw [show b = s from e]; exact HI.out.ns)), hid g1, hid (HM2.out.trans g2), hid (by rw [HL.out, HL1.out]; simp), hid (by rw [HQ.out, HE1.out]; rfl), hid ⟨(dueStep_base D k).1.trans HB.out.1, (dueStep_base D k).2.trans HB.out.2⟩, hid (by have := HDL.out; simp; omega)⟩
            case measure => simp [intOf]; omega
      · have tb : (bits BinOp.and IntKind.u32 ((D.told : Int) / 2 ^ k) 1 == 0) = false := by rw [bits_told HS.out.b2, hbit]; rfl
        have HBIT := hid hbit
        have HKM := hid hlt
        have HL1 := hid (dueL_step (d := D) hlt)
        have HE1 := hid (dueE_step (d := D) hlt)
        rw [hbit] at HL1 HE1
        clear hbit
        go_wp2_with fail
        go_roundw
        case rel => exact ⟨k + 1, xs, dn, D, by go_num, by have := HKM.out; omega, HO, HX, HS, HM, hid (by rw [HL.out, HL1.out]; rfl), hid (by rw [HQ.out, HE1.out]; rfl), HB, hid (by have := HDL.out; omega)⟩
        case measure => simp [intOf]; omega
    · have hkm2 : k = m := by omega
      by_cases hkn : k < n
      · have hk16 : ¬ (k < 16) := by have := HMM.out; omega
        have t1 : decide ((k : Int) < (n : Int)) = true := decide_eq_true (by omega)
        have t2 : decide (k < n) = true := decide_eq_true hkn
        have t3 : decide ((k : Int) < 16) = false := decide_eq_false (by omega)
        have t4 : decide (k < 16) = false := decide_eq_false hk16
        have HKK := hid hkm2
        have q1 := HS.out.box.c1
        clear hkm2 hlt hkn hk16 hkm
        go_wp2_with fail
        go_ret
        exact due_end HO HX HS HM HL HQ HKK HMN HMM HI HNN
      · have t1 : decide ((k : Int) < (n : Int)) = false := decide_eq_false (by omega)
        have t2 : decide (k < n) = false := decide_eq_false hkn
        have HKK := hid hkm2
        have q1 := HS.out.box.c1
        clear hkm2 hlt hkn hkm
        go_wp2_with fail
        go_ret
        exact due_end HO HX HS HM HL HQ HKK HMN HMM HI HNN
end Go.Proofs.Ytidohmpnefcpcaa

