import Derived.Test.YtjjahefedpfnaaaQ2
import Derived.Test.YtjjahefedpfnaaaB6
namespace Go.Proofs.Ytjjahefedpfnaaa
open Go.RowKit
theorem refSort_is {a : Option Addr} {c : Nat} {xs l : List Pid} {w : World} (h : Hid (sortR [] xs = l)) (hn : xs.length ≤ 274877906944) (hx : PidRow w a xs) :
   Calls Try.prog 35 #[.slice a xs.length c] w fun e w' => ∃ a' c', e = .returned (.slice a' l.length c') ∧ PidRow w' a' l ∧ Below w.heap.size w w' := by
  refine (refSort_any a c xs w hn hx).mono ?_
  rintro e w' ⟨a', c', rfl, h1, -, h2⟩
  rw [h.out] at *
  exact ⟨a', c', rfl, h1, h2⟩
theorem without_is {a : Option Addr} {c : Nat} {xs l : List Pid} {x y : Int} {w : World} (h : Hid (withoutP xs (x, y) = l)) (hn : xs.length ≤ 549755813888) (hx : PidRow w a xs) :
   Calls Try.prog 37 #[.slice a xs.length c, .agg #[.int .u16 x, .int .u32 y]] w fun e w' => ∃ a' c', e = .returned (.slice a' l.length c') ∧ PidRow w' a' l ∧ Below w.heap.size w w' := by
  refine (without_any a c xs x y w hn hx).mono ?_
  rintro e w' ⟨v, rfl, h1, h2⟩
  rw [h.out] at h1
  obtain ⟨a', c', rfl, h3, -⟩ := h1.row
  exact ⟨a', c', rfl, h3, h2⟩
theorem common_is {a b : Option Addr} {c d : Nat} {xs ys l : List Pid} {w : World} (h : Hid (commonP xs ys = l)) (hn : xs.length ≤ 549755813888) (hm : ys.length ≤ 549755813888) (hx : PidRow w a xs) (hy : PidRow w b ys) :
   Calls Try.prog 32 #[.slice a xs.length c, .slice b ys.length d] w fun e w' => ∃ a' c', e = .returned (.slice a' l.length c') ∧ PidRow w' a' l ∧ Below w.heap.size w w' := by
  refine (refCommon_any a c xs b d ys w hn hm hx hy).mono ?_
  rintro e w' ⟨v, rfl, h1, h2⟩
  rw [h.out] at h1
  obtain ⟨a', c', rfl, h3, -⟩ := h1.row
  exact ⟨a', c', rfl, h3, h2⟩
theorem list_is {s r : Nat} {L : List (Pid × Unit)} {l : List Pid} {n : Nat} {w : World} (h : Hid (SR L = l)) (hS : SetIs w s r L) (hO : SetOk L n) (hn : n ≤ 549755813888) :
   Calls Try.prog 43 #[.pointer (some ⟨s, 0, none⟩)] w fun e w' => ∃ a' c', e = .returned (.slice a' l.length c') ∧ PidRow w' a' l ∧ Below w.heap.size w w' := by
  refine (list_any s r L w hS hO.nd hO.ok (by have := hO.len; omega)).mono ?_
  rintro e w' ⟨v, rfl, h1, h2⟩
  rw [show sortL (keys L) = l from h.out] at h1
  obtain ⟨a', c', rfl, h3, -⟩ := h1.row
  exact ⟨a', c', rfl, h3, h2⟩
theorem len_is {s r : Nat} {L : List (Pid × Unit)} {k : Int} {w : World} (h : Hid ((L.length : Int) = k)) (hS : SetIs w s r L) :
   Calls Try.prog 42 #[.pointer (some ⟨s, 0, none⟩)] w fun e w' => e = .returned (.int .i64 k) ∧ w' = w := by
  refine (len_any s r L w hS).mono ?_
  rintro e w' ⟨rfl, rfl⟩
  exact ⟨by rw [h.out], rfl⟩
theorem keep_is {s r : Nat} {L L' : List (Pid × Unit)} {a : Option Addr} {c n : Nat} {xs : List Pid} {k : Int} {w : World} (hL : Hid (keepL L xs = L')) (hk : Hid ((L.length : Int) - (L'.length : Int) = k)) (hS : SetIs w s r L) (hO : SetOk L n) (hn : n ≤ 549755813888) (hm : xs.length ≤ 549755813888) (hrow : PidRow w a xs) :
   Calls Try.prog 40 #[.pointer (some ⟨s, 0, none⟩), .slice a xs.length c] w fun e w' => e = .returned (.int .i64 k) ∧ SetIs w' s r L' ∧ Mut (fun k => k = r) w w' := by
  have := keep_any s r L a c xs w hS hO.nd hO.ok (by have := hO.len; omega) hm hrow
  rw [hL.out, hk.out] at this
  exact this

theorem alloc1_at (w : World) (A : Obj) : (w.alloc A).heap[w.heap.size]? = some A := by
  show (w.heap.push A)[w.heap.size]? = some A
  simp only [Array.getElem?_push_size]
theorem alloc2_old (w : World) (A B : Obj) : ((w.alloc A).alloc B).heap[w.heap.size]? = some A := by
  show ((w.heap.push A).push B)[w.heap.size]? = some A
  rw [Array.getElem?_push_lt (by simp)]
  simp
theorem PidRow.grown {w w' : World} {b off : Nat} {xs : List Pid} {row : Option Nat} (h : PidRow w (some ⟨b, off, none⟩) xs) (hg : w.grownBy w' row) (hne : some b ≠ row) : PidRow w' (some ⟨b, off, none⟩) xs := by
  rcases h with rfl | ⟨b', off', e, hlt, hc⟩
  · exact .inl rfl
  · cases e
    have hb := hg.block b hlt hne
    refine .inr ⟨b, off, rfl, Nat.lt_of_lt_of_le hlt hg.size, fun i hi => ?_⟩
    obtain ⟨h1, h2⟩ := hc i hi
    exact ⟨(World.cell?_of_block hb).trans h1, (World.cell?_of_block hb).trans h2⟩
theorem addN_is {s r : Nat} {L L' : List (Pid × Unit)} {x y : Int} {bs nb : Bool} {w : World} (h : Hid ((look (x, y) L).isSome = bs)) (hn : (!bs) = nb) (hL : Hid (add1 (x, y) L = L')) (hS : SetIs w s r L) :
   Calls Try.prog 41 #[.pointer (some ⟨s, 0, none⟩), .agg #[.int .u16 x, .int .u32 y]] w fun e w' => e = .returned (.bool nb) ∧ SetIs w' s r L' ∧ Mut (fun k => k = r) w w' := by
  have := add_is s r L x y h.out w hS
  rw [hn, hL.out] at this
  exact this
/-- 'append(out, ys...)' in a region that draws its order -/
theorem step_appendP {w : World} {o : Oper} {a : Go.Act} {K : Go.Act → World → Prop} {Q : Exit → Go.Act → World → Prop} {y : Nat → Option Bool} {s x : Operand} {base : Nat} {v : Value} {xs ys : List Pid} {ad : Option Addr} {n c : Nat} (hw : Region.wanted o y = true) (hown : OwnP w base v xs) (hn : Hid (n = ys.length)) (hy : PidRow w ad ys)
    (hlen : xs.length + ys.length ≤ 1099511627776) (hbase : base ≤ w.heap.size)
    (ho : o.op = .call { callee := .builtin .append, args := #[s, x], argTypes := #[33, 33] }) (hs : a.eval s = v) (hx : a.eval x = .slice ad n c)
    (h : ∀ v' w', OwnP w' base v' (xs ++ ys) → w.grownBy w' v.ownBlock → K (a.put o.dst v') w') : if Region.wanted o y = true then Oper.wp Try.prog o a w K Q else K (a.put o.dst undef) w := by
  rw [if_pos hw]
  obtain ⟨v', w', hr, h2, h3, h4⟩ := run_appendP hown (c := c) hy hlen hbase o.type
  exact Lib.wp_append_run w s x 33 33 ho _ _ hs (by rw [hx, hn.out]) v' w' hr (h v' w' h2 h3)

set_option maxRecDepth 100000 in
set_option maxHeartbeats 25600000 in
theorem psetPlays_law (a : Option Addr) (c : Nat) (zs : List Pid) (b : Option Addr) (d : Nat) (xs : List Act) (w : World) (hz : PidRow w a zs) (hzf : WfPids zs) (hzb : zs.length ≤ 17592186044416 ∧ zs.length ≤ c) (hx : ActRow w b xs) (hwf : WfActs xs) (hb : xs.length ≤ 17592186044416 ∧ xs.length ≤ d) :
    Calls Try.prog 7 #[.slice a zs.length c, .slice b xs.length d] w fun e w' => e = .returned (.bool true) ∧ Below w.heap.size w w' := by
  by_cases h4 : 40 < zs.length
  · have h1' : decide (40 < (zs.length : Int)) = true := by simp; omega
    go_enter Try.func7, Try.ntmps7
    go_wp2_with (go_at_call 28; refine (awakeSet_any _).mono ?_; rintro e w7 ⟨rfl, hb7⟩)
    go_ret
    exact ⟨rfl, hb7⟩
  · have h1' : decide (40 < (zs.length : Int)) = false := by simp; omega
    cases hgr : greatA xs 0
    · have HG := hid hgr
      have HWF := hid hwf
      have HZF := hid hzf
      have HL0 : Hid (sortR [] zs = SR (unionL [] zs)) := hid (SR_start hzf)
      have HO0 : Hid (SetOk (unionL [] zs) 40) := hid (SetOk.start hzf (by omega))
      have HNO : Hid (∀ i (h : i < xs.length), i < 100 → xs[i].l.length ≤ 40) := hid fun i h h1 => greatA_no hgr i h (by omega)
      clear hgr hwf hzf
      obtain ⟨hlen, -⟩ := hb
      go_enter Try.func7, Try.ntmps7
      go_wp2_with (go_at_call 33; refine (greatActs_is HG hx).mono ?_; rintro e w1 ⟨rfl, hb1⟩)
      have hz1 := hz.ext hb1
      refine (new_any a c zs _ (by omega) hz1).mono ?_
      rintro e w2 ⟨s, r, rfl, hs, hr, hS2, hb2⟩
      have z1 := hb1.size
      have hB2 := hb1.trans (hb2.mono z1)
      have z2 := hB2.size
      go_wp2_with fail
      refine (refSort_is HL0 (by omega) (hz1.ext hb2)).mono ?_
      rintro e w3 ⟨a3, c3, rfl, hrow3, hb3⟩
      have hS3 := hS2.ext hb3
      have hB3 := hB2.trans (hb3.mono z2)
      have hs0 : w.heap.size ≤ s := by omega
      have hr0 : w.heap.size ≤ r := by omega
      clear hb1 hb2 hb3 hS2 hB2 z1 z2 hs hr hz1 hz
      go_wp2_with fail
      go_loopw [4, 6, 7] (fun rs v i wr => rs = .bool false ∧ ∃ (k : Nat) (L : List (Pid × Unit)) (ag : Option Addr) (cg : Nat), k ≤ xs.length ∧ k ≤ 100 ∧ i = .int .i64 k ∧ v = .slice ag (SR L).length cg ∧ PidRow wr ag (SR L) ∧ SetIs wr s r L ∧ SetOk L (40 + 41 * k) ∧ Below w.heap.size w wr) (fun _ _ i _ => xs.length - (intOf i).toNat)
      case atStart => exact ⟨rfl, 0, _, a3, c3, Nat.zero_le _, by omega, rfl, rfl, hrow3, hS3, HO0.out, hB3⟩
      case round =>
        obtain ⟨rfl, k, L, ag, cg, hk, hk100, rfl, rfl, hrow, hS, hO, hB⟩ := hrel
        clear hrow3 hS3 hB3
        by_cases hgo : k < xs.length ∧ k < 100
        · obtain ⟨hlt, h100⟩ := hgo
          obtain ⟨bb, off, ai, ci, kd, x, y, l, rfl, hxk, d1, d2, d3, d4, hl⟩ := (hx.ext hB).at hlt
          obtain ⟨⟨w0, w1⟩, ⟨w2, w3, w4, w5⟩, w6, w7⟩ := HWF.out xs[k] (List.getElem_mem _)
          have hl40 := HNO.out k hlt h100
          rw [hxk] at w0 w1 w2 w3 w4 w5 w6 w7 hl40
          simp only at w0 w1 w2 w3 w4 w5 w6 w7 hl40
          have hl1 : decide (k < xs.length) = true := by simpa using hlt
          have hl2 : decide ((k : Int) < (xs.length : Int)) = true := by simp; omega
          have hl3 : decide (k < 100) = true := by simpa using h100
          have hl4 : decide ((k : Int) < 100) = true := by simp; omega
          obtain ⟨R, hR⟩ : ∃ R, SR L = R := ⟨_, rfl⟩
          have hRL : R.length = L.length := by rw [← hR, SR_len]
          rw [hR] at hrow
          rw [hR]
          have HR := hid hR
          have HX := hid hxk
          have HW6 : Hid (∀ p ∈ l, Go.Proofs.Ytjjahefedpfnaaa.ok p) := hid w6
          have okx : Go.Proofs.Ytjjahefedpfnaaa.ok (x, y) := ⟨w2, w3, w4, w5⟩
          have hRn : R.length ≤ 4140 := by have := hO.len; omega
          have HRL := hid hRL
          clear hxk w6 hR hRL
          have z0 := hB.size
          obtain ⟨wa, hwa⟩ : ∃ wa, wr.alloc (.cells #[.int .i64 kd, .int .u16 x, .int .u32 y, .slice ai l.length ci] 58) = wa := ⟨_, rfl⟩
          have hBa0 : Below wr.heap.size wr wa := by rw [← hwa]; exact (Below.refl _ _).alloc (Nat.le_refl _) _
          have q1 : wa.cell? ⟨wr.heap.size, 1, none⟩ = some (.int .u16 x) := by rw [← hwa]; simp
          have q2 : wa.cell? ⟨wr.heap.size, 1 + 1, none⟩ = some (.int .u32 y) := by rw [← hwa]; simp
          have q3 : wa.cell? ⟨wr.heap.size, 3, none⟩ = some (.slice ai l.length ci) := by rw [← hwa]; simp
          have q0 : wa.cell? ⟨wr.heap.size, 0, none⟩ = some (.int .i64 kd) := by rw [← hwa]; simp
          have hSa := hS.ext hBa0
          have hrowa := hrow.ext hBa0
          have hla := hl.ext hBa0
          have hBa := hB.trans (hBa0.mono z0)
          have hgr : wr.heap.size ≠ r := by have := hS.map.lt; omega
          have za : wr.heap.size < wa.heap.size := by rw [← hwa]; simp
          clear hS hrow hl hBa0
          by_cases c2 : kd % 5 = 2
          · have HG := hid c2
            obtain ⟨bh, hbh⟩ : ∃ bh, (look (x, y) L).isSome = bh := ⟨_, rfl⟩
            have HH : Hid (decide ((x, y) ∈ R) = bh) := hid (by rw [← HR.out, SR_has, hbh])
            obtain ⟨Re, hRe⟩ : ∃ Re, withoutP R (x, y) = Re := ⟨_, rfl⟩
            have HRe : Hid (SR (del (x, y) L) = Re) := hid (by rw [← hRe, ← HR.out]; exact (SR_del hO).symm)
            have eh : (bh != bh) = false := by simp
            go_wp2_with (first
              | (go_at_call 16; refine (pick_is HG.out (by omega) (by omega) w0 w1).mono ?_; rintro e w7 ⟨rfl, rfl⟩))
            refine (hasR_is HH (by omega) hrowa).mono ?_
            rintro e w8 ⟨rfl, hb8⟩
            have hS8 := hSa.ext hb8
            have hrow8 := hrowa.ext hb8
            have q18 := cell_to q1 hb8
            have q28 := cell_to q2 hb8
            have hB8 := hBa.trans (hb8.mono hBa.size)
            have z8 := hb8.size
            clear hSa hrowa hBa hb8 q1 q2 q3 hla
            go_wp2_with fail
            refine (without_is (hid hRe) (by omega) hrow8).mono ?_
            rintro e w9 ⟨ae, ce, rfl, hrow9, hb9⟩
            have hS9 := hS8.ext hb9
            have q19 := cell_to q18 hb9
            have q29 := cell_to q28 hb9
            have hB9 := hB8.trans (hb9.mono hB8.size)
            have z9 := hb9.size
            clear hS8 hrow8 q18 q28 hB8 hb9
            go_wp2_with fail
            refine (drop_is s r L x y hbh _ hS9).mono ?_
            rintro e w10 ⟨rfl, hSe, hm10⟩
            have hrowe := hrow9.mutMap hm10 hS9.map
            have q1 := (hm10.cell (p := ⟨wr.heap.size, 1, none⟩) (by simp; omega) hgr).trans q19
            have q2 := (hm10.cell (p := ⟨wr.heap.size, 1 + 1, none⟩) (by simp; omega) hgr).trans q29
            have hBe := hB9.trans (hm10.below hB9.size (fun k hk => by omega))
            have hOe : SetOk (del (x, y) L) (40 + 41 * (k + 1)) := hO.del.mono (by omega)
            obtain ⟨Le, hLe⟩ : ∃ Le, del (x, y) L = Le := ⟨_, rfl⟩
            rw [hLe] at HRe hSe hOe
            clear hm10 hrow9 hS9 q19 q29 hB9 hbh hRe hLe hO
            have ye := hBe.size
            have HF : Hid (∀ W, Below w10.heap.size w10 W → W.cell? ⟨wr.heap.size, 1, none⟩ = some (.int .u16 x) ∧ W.cell? ⟨wr.heap.size, 1 + 1, none⟩ = some (.int .u32 y)) := hid fun W h => ⟨cell_to q1 h, cell_to q2 h⟩
            obtain ⟨N, hN⟩ : ∃ N : Nat, Re.length = N := ⟨_, rfl⟩
            have HLE : Hid (((Le.length : Nat) : Int) = (N : Int)) := hid (by rw [← hN, ← HRe.out, SR_len])
            have hN2 : N ≤ 8192 := by have := HLE.out; have := hOe.len; omega
            rw [hN]
            try rw [hN] at hwr
            try rw [hN] at hwrN
            obtain ⟨bs, hbs⟩ : ∃ bs, (look (x, y) Le).isSome = bs := ⟨_, rfl⟩
            have C1 : Hid (∀ W, Below w10.heap.size w10 W → Calls Try.prog 42 #[.pointer (some ⟨s, 0, none⟩)] W fun e w' => e = .returned (.int .i64 N) ∧ Below w10.heap.size w10 w') := hid fun W h => (len_is HLE (hSe.ext h)).mono (by rintro e w' ⟨rfl, rfl⟩; exact ⟨rfl, h⟩)
            have C2 : Hid (∀ W, Below w10.heap.size w10 W → Calls Try.prog 43 #[.pointer (some ⟨s, 0, none⟩)] W fun e w' => ∃ a' c', e = .returned (.slice a' N c') ∧ PidRow w' a' Re ∧ Below w10.heap.size w10 w') := hid fun W h => (list_is HRe (hSe.ext h) hOe (by omega)).mono (by rintro e w' ⟨a', c', rfl, h1, h2⟩; exact ⟨a', c', by rw [hN], h1, h.trans (h2.mono h.size)⟩)
            have C3 : Hid (∀ W a' c', Below w10.heap.size w10 W → PidRow W a' Re → Calls Try.prog 24 #[.slice a' N c', .slice ae N ce] W fun e w' => e = .returned (.bool true) ∧ Below w10.heap.size w10 w') := hid fun W a' c' h hr => by
              rw [← hN]
              exact (sameR_is (bm := true) (hid (by simp)) (by omega) (by omega) hr (hrowe.ext h)).mono (by rintro e w' ⟨rfl, h2⟩; exact ⟨rfl, h.trans (h2.mono h.size)⟩)
            have C4 : Hid (∀ W, Below w10.heap.size w10 W → Calls Try.prog 44 #[.pointer (some ⟨s, 0, none⟩), .agg #[.int .u16 x, .int .u32 y]] W fun e w' => e = .returned (.bool bs) ∧ Below w10.heap.size w10 w') := hid fun W h => (has_any s r Le x y bs W (hSe.ext h) (hid hbs)).mono (by rintro e w' ⟨rfl, h2⟩; exact ⟨rfl, h.trans (h2.mono h.size)⟩)
            have C5 : Hid (∀ W, Below w10.heap.size w10 W → Calls Try.prog 36 #[.slice ae N ce, .agg #[.int .u16 x, .int .u32 y]] W fun e w' => e = .returned (.bool bs) ∧ Below w10.heap.size w10 w') := hid fun W h => by
              rw [← hN]
              exact (hasR_is (bm := bs) (hid (by rw [← hbs, ← SR_has, HRe.out])) (by omega) (hrowe.ext h)).mono (by rintro e w' ⟨rfl, h2⟩; exact ⟨rfl, h.trans (h2.mono h.size)⟩)
            have HBE := hid hBe
            have HRW : Hid (∀ W, Below w10.heap.size w10 W → PidRow W ae Re) := hid fun W h => hrowe.ext h
            have HST : Hid (∀ W, Below w10.heap.size w10 W → SetIs W s r Le) := hid fun W h => hSe.ext h
            have HN := hid hN
            have HO := hid hOe
            have H0 : Below w10.heap.size w10 w10.drew := (Below.refl _ _).drew
            have en : ((N : Int) != (N : Int)) = false := by simp
            have eb : (bs != bs) = false := by simp
            clear hbs hN hOe hSe hBe hrowe q1 q2 HH HR
            go_wp2_with fail
            skip
            go_region_held3 (fun W => Below w10.heap.size w10 W ∧ W.cell? ⟨wr.heap.size, 1, none⟩ = some (.int .u16 x) ∧ W.cell? ⟨wr.heap.size, 1 + 1, none⟩ = some (.int .u32 y)) (first
              | exact ⟨H0, HF.out _ H0⟩
              | exact ⟨by assumption, HF.out _ (by assumption)⟩) (first
              | (go_at_call 42; refine (C1.out _ (by assumption)).mono ?_; rintro e w21 ⟨rfl, hb21⟩)
              | (go_at_call 43; refine (C2.out _ (by assumption)).mono ?_; rintro e w22 ⟨a22, c22, rfl, hr22, hb22⟩)
              | (go_at_call 24; refine (C3.out _ _ _ (by assumption) (by assumption)).mono ?_; rintro e w23 ⟨rfl, hb23⟩)
              | (go_at_call 44; refine (C4.out _ (by assumption)).mono ?_; rintro e w24 ⟨rfl, hb24⟩)
              | (go_at_call 36; refine (C5.out _ (by assumption)).mono ?_; rintro e w25 ⟨rfl, hb25⟩))
            go_wp2
            go_roundw
            case rel => exact ⟨rfl, k + 1, Le, ae, ce, by omega, by omega, by go_num, by rw [show (SR Le).length = N by rw [HRe.out, HN.out]], by rw [show SR Le = Re from HRe.out]; exact HRW.out _ (by assumption), HST.out _ (by assumption), HO.out, HBE.out.trans (Below.mono (by assumption) ye)⟩
            case measure => simp [intOf]; omega
          · by_cases c3 : kd % 5 = 3
            · have HG := hid c3
              obtain ⟨G, hG⟩ : ∃ G, R ++ l = G := ⟨_, rfl⟩
              have hGn : G.length ≤ 8192 := by rw [← hG]; simp; omega
              have HG0 := hid hG
              obtain ⟨Re, hRe⟩ : ∃ Re, sortR [] G = Re := ⟨_, rfl⟩
              obtain ⟨Le, hLe⟩ : ∃ Le, unionL L l = Le := ⟨_, rfl⟩
              have HRe : Hid (SR Le = Re) := hid (by rw [← hRe, ← hG, ← HR.out, ← hLe]; exact (SR_union hO HW6.out).symm)
              have hOe : SetOk Le (40 + 41 * (k + 1)) := by rw [← hLe]; exact (hO.union HW6.out (m := 40) (by omega)).mono (by omega)
              have hRel : Re.length = Le.length := by rw [← HRe.out, SR_len]
              have hRen : Re.length ≤ 8192 := by have := hOe.len; omega
              obtain ⟨m, hm⟩ : ∃ m : Int, (Re.length : Int) - (R.length : Int) = m := ⟨_, rfl⟩
              have HM : Hid (((unionN L l : Nat) : Int) = m) := hid (by have := unionN_len l L; rw [hLe] at this; rw [← hm, hRel, HRL.out]; omega)
              have hwr : IntKind.i64.wrap ((Re.length : Int) - (R.length : Int)) = m := by rw [← hm]; exact IntWalk.i64_in _ (by omega)
              have em : (m != m) = false := by simp
              have HLe := hid hLe
              have HRe' := hid hRe
              clear hLe hRe hm hRel hG
              go_wp2_with (first
                | (go_at_call 16; refine (pick_is HG.out (by omega) (by omega) w0 w1).mono ?_; rintro e w7 ⟨rfl, rfl⟩))
              have H0 : Below w7.heap.size w7 w7.drew := (Below.refl _ _).drew
              have HE0 : Below w7.heap.size w7 (w7.alloc (.cells #[] 32)).drew := ((Below.refl _ _).alloc (Nat.le_refl _) _).drew
              have HROW : Hid (∀ W, Below w7.heap.size w7 W → PidRow W ag R) := hid fun W h => hrowa.ext h
              have HLR : Hid (∀ W, Below w7.heap.size w7 W → PidRow W ai l) := hid fun W h => hla.ext h
              have HF3 : Hid (∀ W, Below w7.heap.size w7 W → W.cell? ⟨wr.heap.size, 3, none⟩ = some (.slice ai l.length ci)) := hid fun W h => cell_to q3 h
              have HSA := hid hSa
              have HBA := hid hBa
              have HQ1 := hid q1
              have HQ2 := hid q2
              clear hSa hrowa hla hBa q1 q2 q3
              go_region_held3 (fun W => Below w7.heap.size w7 W ∧ W.cell? ⟨wr.heap.size, 3, none⟩ = some (.slice ai l.length ci)) (first
                | (refine ⟨?_, HF3.out _ ?_⟩ <;> first | exact H0 | assumption | exact HE0 | exact Below.alloc (by assumption) (Below.size (by assumption)) _)) (first
                | (refine step_appendP (by rfl) (PidRow.app_nil (alloc1_at w7 _)) (hid rfl) (HROW.out _ HE0) (by simp; omega) (by simp) rfl rfl rfl ?_; intro v8 w8 hown8 hg8; have hown8' : OwnP w8 w7.heap.size v8 R := (by simpa using hown8); have hb8 : Below w7.heap.size w7 w8 := HE0.grown hg8 (by simp) (fun g hg => by simp [Value.ownBlock] at hg; omega))
                | (refine step_appendP (by rfl) hown8' (hid rfl) (HLR.out _ hb8) (by omega) hb8.size rfl rfl rfl ?_; intro v9 w9 hown9 hg9; rw [HG0.out] at hown9; have hb9 : Below w7.heap.size w7 w9 := hb8.grown hg9 hb8.size (fun g hg => (World.ownsRow.lt hown8' g hg).1); obtain ⟨a9, c9, rfl, hrow9, -⟩ := hown9.row)
                | (go_at_call 35; refine (refSort_is HRe' (by omega) hrow9).mono ?_; rintro e w10 ⟨ae, ce, rfl, hrow10, hb10'⟩; have hb10 : Below w7.heap.size w7 w10 := hb9.trans (hb10'.mono hb9.size)))
              have hS10 := HSA.out.ext hb10
              have hl10 := HLR.out _ hb10
              have q19 := cell_to HQ1.out hb10
              have q29 := cell_to HQ2.out hb10
              have hB10 := HBA.out.trans (hb10.mono HBA.out.size)
              have z10 := hb10.size
              clear HSA HBA HLR HROW HF3 HQ1 HQ2 hb10 hb10' hb9 hrow9 hown9 hg9 hb8 hown8' hown8 hg8
              go_wp2_with fail
              refine (union_is (ys := l) (hid rfl) HM.out HLe.out (by omega) hl10 hS10).mono ?_
              rintro e w11 ⟨rfl, hSe, hm11⟩
              have hrowe := hrow10.mutMap hm11 hS10.map
              have q1 := (hm11.cell (p := ⟨wr.heap.size, 1, none⟩) (by simp; omega) hgr).trans q19
              have q2 := (hm11.cell (p := ⟨wr.heap.size, 1 + 1, none⟩) (by simp; omega) hgr).trans q29
              have hBe := hB10.trans (hm11.below hB10.size (fun k hk => by omega))
              clear hm11 hrow10 hS10 q19 q29 hB10 hO H0 HE0
              have ye := hBe.size
              have HF : Hid (∀ W, Below w11.heap.size w11 W → W.cell? ⟨wr.heap.size, 1, none⟩ = some (.int .u16 x) ∧ W.cell? ⟨wr.heap.size, 1 + 1, none⟩ = some (.int .u32 y)) := hid fun W h => ⟨cell_to q1 h, cell_to q2 h⟩
              obtain ⟨N, hN⟩ : ∃ N : Nat, Re.length = N := ⟨_, rfl⟩
              have HLE : Hid (((Le.length : Nat) : Int) = (N : Int)) := hid (by rw [← hN, ← HRe.out, SR_len])
              have hN2 : N ≤ 8192 := by have := HLE.out; have := hOe.len; omega
              rw [hN]
              try rw [hN] at hwr
              try rw [hN] at hwrN
              obtain ⟨bs, hbs⟩ : ∃ bs, (look (x, y) Le).isSome = bs := ⟨_, rfl⟩
              have C1 : Hid (∀ W, Below w11.heap.size w11 W → Calls Try.prog 42 #[.pointer (some ⟨s, 0, none⟩)] W fun e w' => e = .returned (.int .i64 N) ∧ Below w11.heap.size w11 w') := hid fun W h => (len_is HLE (hSe.ext h)).mono (by rintro e w' ⟨rfl, rfl⟩; exact ⟨rfl, h⟩)
              have C2 : Hid (∀ W, Below w11.heap.size w11 W → Calls Try.prog 43 #[.pointer (some ⟨s, 0, none⟩)] W fun e w' => ∃ a' c', e = .returned (.slice a' N c') ∧ PidRow w' a' Re ∧ Below w11.heap.size w11 w') := hid fun W h => (list_is HRe (hSe.ext h) hOe (by omega)).mono (by rintro e w' ⟨a', c', rfl, h1, h2⟩; exact ⟨a', c', by rw [hN], h1, h.trans (h2.mono h.size)⟩)
              have C3 : Hid (∀ W a' c', Below w11.heap.size w11 W → PidRow W a' Re → Calls Try.prog 24 #[.slice a' N c', .slice ae N ce] W fun e w' => e = .returned (.bool true) ∧ Below w11.heap.size w11 w') := hid fun W a' c' h hr => by
                rw [← hN]
                exact (sameR_is (bm := true) (hid (by simp)) (by omega) (by omega) hr (hrowe.ext h)).mono (by rintro e w' ⟨rfl, h2⟩; exact ⟨rfl, h.trans (h2.mono h.size)⟩)
              have C4 : Hid (∀ W, Below w11.heap.size w11 W → Calls Try.prog 44 #[.pointer (some ⟨s, 0, none⟩), .agg #[.int .u16 x, .int .u32 y]] W fun e w' => e = .returned (.bool bs) ∧ Below w11.heap.size w11 w') := hid fun W h => (has_any s r Le x y bs W (hSe.ext h) (hid hbs)).mono (by rintro e w' ⟨rfl, h2⟩; exact ⟨rfl, h.trans (h2.mono h.size)⟩)
              have C5 : Hid (∀ W, Below w11.heap.size w11 W → Calls Try.prog 36 #[.slice ae N ce, .agg #[.int .u16 x, .int .u32 y]] W fun e w' => e = .returned (.bool bs) ∧ Below w11.heap.size w11 w') := hid fun W h => by
                rw [← hN]
                exact (hasR_is (bm := bs) (hid (by rw [← hbs, ← SR_has, HRe.out])) (by omega) (hrowe.ext h)).mono (by rintro e w' ⟨rfl, h2⟩; exact ⟨rfl, h.trans (h2.mono h.size)⟩)
              have HBE := hid hBe
              have HRW : Hid (∀ W, Below w11.heap.size w11 W → PidRow W ae Re) := hid fun W h => hrowe.ext h
              have HST : Hid (∀ W, Below w11.heap.size w11 W → SetIs W s r Le) := hid fun W h => hSe.ext h
              have HN := hid hN
              have HO := hid hOe
              have H0 : Below w11.heap.size w11 w11.drew := (Below.refl _ _).drew
              have en : ((N : Int) != (N : Int)) = false := by simp
              have eb : (bs != bs) = false := by simp
              clear hbs hN hOe hSe hBe hrowe q1 q2 HR HM HLe HRe' hl10
              go_wp2_with fail
              skip
              go_region_held3 (fun W => Below w11.heap.size w11 W ∧ W.cell? ⟨wr.heap.size, 1, none⟩ = some (.int .u16 x) ∧ W.cell? ⟨wr.heap.size, 1 + 1, none⟩ = some (.int .u32 y)) (first
                | exact ⟨H0, HF.out _ H0⟩
                | exact ⟨by assumption, HF.out _ (by assumption)⟩) (first
                | (go_at_call 42; refine (C1.out _ (by assumption)).mono ?_; rintro e w21 ⟨rfl, hb21⟩)
                | (go_at_call 43; refine (C2.out _ (by assumption)).mono ?_; rintro e w22 ⟨a22, c22, rfl, hr22, hb22⟩)
                | (go_at_call 24; refine (C3.out _ _ _ (by assumption) (by assumption)).mono ?_; rintro e w23 ⟨rfl, hb23⟩)
                | (go_at_call 44; refine (C4.out _ (by assumption)).mono ?_; rintro e w24 ⟨rfl, hb24⟩)
                | (go_at_call 36; refine (C5.out _ (by assumption)).mono ?_; rintro e w25 ⟨rfl, hb25⟩))
              go_wp2
              go_roundw
              case rel => exact ⟨rfl, k + 1, Le, ae, ce, by omega, by omega, by go_num, by rw [show (SR Le).length = N by rw [HRe.out, HN.out]], by rw [show SR Le = Re from HRe.out]; exact HRW.out _ (by assumption), HST.out _ (by assumption), HO.out, HBE.out.trans (Below.mono (by assumption) ye)⟩
              case measure => simp [intOf]; omega
            · by_cases c4 : kd % 5 = 4
              · have HG := hid c4
                obtain ⟨Re, hRe⟩ : ∃ Re, commonP R l = Re := ⟨_, rfl⟩
                have HRe : Hid (SR (keepL L l) = Re) := hid (by rw [← hRe, ← HR.out]; exact (SR_keep hO).symm)
                obtain ⟨Le, hLe⟩ : ∃ Le, keepL L l = Le := ⟨_, rfl⟩
                have hOe : SetOk Le (40 + 41 * (k + 1)) := by rw [← hLe]; exact hO.keep.mono (by omega)
                rw [hLe] at HRe
                have hRel : Re.length = Le.length := by rw [← HRe.out, SR_len]
                have hRen : Re.length ≤ 8192 := by have := hOe.len; omega
                obtain ⟨m, hm⟩ : ∃ m : Int, (R.length : Int) - (Re.length : Int) = m := ⟨_, rfl⟩
                have HM : Hid ((L.length : Int) - (Le.length : Int) = m) := hid (by rw [← hm, HRL.out, hRel])
                have hwr : IntKind.i64.wrap ((R.length : Int) - (Re.length : Int)) = m := by rw [← hm]; exact IntWalk.i64_in _ (by omega)
                have em : (m != m) = false := by simp
                have HLe := hid hLe
                have HRe' := hid hRe
                clear hLe hRe hm hRel
                go_wp2_with (first
                  | (go_at_call 16; refine (pick_is HG.out (by omega) (by omega) w0 w1).mono ?_; rintro e w7 ⟨rfl, rfl⟩))
                refine (common_is HRe' (by omega) (by omega) hrowa hla).mono ?_
                rintro e w9 ⟨ae, ce, rfl, hrow9, hb9⟩
                have hS9 := hSa.ext hb9
                have hl9 := hla.ext hb9
                have q19 := cell_to q1 hb9
                have q29 := cell_to q2 hb9
                have q39 := cell_to q3 hb9
                have hB9 := hBa.trans (hb9.mono hBa.size)
                have z9 := hb9.size
                clear hSa hrowa hla hBa hb9 q1 q2 q3
                go_wp2_with fail
                refine (keep_is HLe HM hS9 hO (by omega) (by omega) hl9).mono ?_
                rintro e w10 ⟨rfl, hSe, hm10⟩
                have hrowe := hrow9.mutMap hm10 hS9.map
                have q1 := (hm10.cell (p := ⟨wr.heap.size, 1, none⟩) (by simp; omega) hgr).trans q19
                have q2 := (hm10.cell (p := ⟨wr.heap.size, 1 + 1, none⟩) (by simp; omega) hgr).trans q29
                have hBe := hB9.trans (hm10.below hB9.size (fun k hk => by omega))
                clear hm10 hrow9 hS9 q19 q29 q39 hB9 hO
                have ye := hBe.size
                have HF : Hid (∀ W, Below w10.heap.size w10 W → W.cell? ⟨wr.heap.size, 1, none⟩ = some (.int .u16 x) ∧ W.cell? ⟨wr.heap.size, 1 + 1, none⟩ = some (.int .u32 y)) := hid fun W h => ⟨cell_to q1 h, cell_to q2 h⟩
                obtain ⟨N, hN⟩ : ∃ N : Nat, Re.length = N := ⟨_, rfl⟩
                have HLE : Hid (((Le.length : Nat) : Int) = (N : Int)) := hid (by rw [← hN, ← HRe.out, SR_len])
                have hN2 : N ≤ 8192 := by have := HLE.out; have := hOe.len; omega
                rw [hN]
                try rw [hN] at hwr
                try rw [hN] at hwrN
                obtain ⟨bs, hbs⟩ : ∃ bs, (look (x, y) Le).isSome = bs := ⟨_, rfl⟩
                have C1 : Hid (∀ W, Below w10.heap.size w10 W → Calls Try.prog 42 #[.pointer (some ⟨s, 0, none⟩)] W fun e w' => e = .returned (.int .i64 N) ∧ Below w10.heap.size w10 w') := hid fun W h => (len_is HLE (hSe.ext h)).mono (by rintro e w' ⟨rfl, rfl⟩; exact ⟨rfl, h⟩)
                have C2 : Hid (∀ W, Below w10.heap.size w10 W → Calls Try.prog 43 #[.pointer (some ⟨s, 0, none⟩)] W fun e w' => ∃ a' c', e = .returned (.slice a' N c') ∧ PidRow w' a' Re ∧ Below w10.heap.size w10 w') := hid fun W h => (list_is HRe (hSe.ext h) hOe (by omega)).mono (by rintro e w' ⟨a', c', rfl, h1, h2⟩; exact ⟨a', c', by rw [hN], h1, h.trans (h2.mono h.size)⟩)
                have C3 : Hid (∀ W a' c', Below w10.heap.size w10 W → PidRow W a' Re → Calls Try.prog 24 #[.slice a' N c', .slice ae N ce] W fun e w' => e = .returned (.bool true) ∧ Below w10.heap.size w10 w') := hid fun W a' c' h hr => by
                  rw [← hN]
                  exact (sameR_is (bm := true) (hid (by simp)) (by omega) (by omega) hr (hrowe.ext h)).mono (by rintro e w' ⟨rfl, h2⟩; exact ⟨rfl, h.trans (h2.mono h.size)⟩)
                have C4 : Hid (∀ W, Below w10.heap.size w10 W → Calls Try.prog 44 #[.pointer (some ⟨s, 0, none⟩), .agg #[.int .u16 x, .int .u32 y]] W fun e w' => e = .returned (.bool bs) ∧ Below w10.heap.size w10 w') := hid fun W h => (has_any s r Le x y bs W (hSe.ext h) (hid hbs)).mono (by rintro e w' ⟨rfl, h2⟩; exact ⟨rfl, h.trans (h2.mono h.size)⟩)
                have C5 : Hid (∀ W, Below w10.heap.size w10 W → Calls Try.prog 36 #[.slice ae N ce, .agg #[.int .u16 x, .int .u32 y]] W fun e w' => e = .returned (.bool bs) ∧ Below w10.heap.size w10 w') := hid fun W h => by
                  rw [← hN]
                  exact (hasR_is (bm := bs) (hid (by rw [← hbs, ← SR_has, HRe.out])) (by omega) (hrowe.ext h)).mono (by rintro e w' ⟨rfl, h2⟩; exact ⟨rfl, h.trans (h2.mono h.size)⟩)
                have HBE := hid hBe
                have HRW : Hid (∀ W, Below w10.heap.size w10 W → PidRow W ae Re) := hid fun W h => hrowe.ext h
                have HST : Hid (∀ W, Below w10.heap.size w10 W → SetIs W s r Le) := hid fun W h => hSe.ext h
                have HN := hid hN
                have HO := hid hOe
                have H0 : Below w10.heap.size w10 w10.drew := (Below.refl _ _).drew
                have en : ((N : Int) != (N : Int)) = false := by simp
                have eb : (bs != bs) = false := by simp
                clear hbs hN hOe hSe hBe hrowe q1 q2 HR HM HLe HRe' hl9
                go_wp2_with fail
                skip
                go_region_held3 (fun W => Below w10.heap.size w10 W ∧ W.cell? ⟨wr.heap.size, 1, none⟩ = some (.int .u16 x) ∧ W.cell? ⟨wr.heap.size, 1 + 1, none⟩ = some (.int .u32 y)) (first
                  | exact ⟨H0, HF.out _ H0⟩
                  | exact ⟨by assumption, HF.out _ (by assumption)⟩) (first
                  | (go_at_call 42; refine (C1.out _ (by assumption)).mono ?_; rintro e w21 ⟨rfl, hb21⟩)
                  | (go_at_call 43; refine (C2.out _ (by assumption)).mono ?_; rintro e w22 ⟨a22, c22, rfl, hr22, hb22⟩)
                  | (go_at_call 24; refine (C3.out _ _ _ (by assumption) (by assumption)).mono ?_; rintro e w23 ⟨rfl, hb23⟩)
                  | (go_at_call 44; refine (C4.out _ (by assumption)).mono ?_; rintro e w24 ⟨rfl, hb24⟩)
                  | (go_at_call 36; refine (C5.out _ (by assumption)).mono ?_; rintro e w25 ⟨rfl, hb25⟩))
                go_wp2
                go_roundw
                case rel => exact ⟨rfl, k + 1, Le, ae, ce, by omega, by omega, by go_num, by rw [show (SR Le).length = N by rw [HRe.out, HN.out]], by rw [show SR Le = Re from HRe.out]; exact HRW.out _ (by assumption), HST.out _ (by assumption), HO.out, HBE.out.trans (Below.mono (by assumption) ye)⟩
                case measure => simp [intOf]; omega
              · obtain ⟨g, hg, e2, e3, e4⟩ : ∃ g, kd % 5 = g ∧ g ≠ 2 ∧ g ≠ 3 ∧ g ≠ 4 := ⟨_, rfl, c2, c3, c4⟩
                have HG := hid hg
                have f2 : (g == 2) = false := by simpa using e2
                have f3 : (g == 3) = false := by simpa using e3
                have f4 : (g == 4) = false := by simpa using e4
                obtain ⟨G, hG⟩ : ∃ G, R ++ [(x, y)] = G := ⟨_, rfl⟩
                have hGn : G.length ≤ 8192 := by rw [← hG]; simp; omega
                have HG0 := hid hG
                obtain ⟨Re, hRe⟩ : ∃ Re, sortR [] G = Re := ⟨_, rfl⟩
                obtain ⟨Le, hLe⟩ : ∃ Le, add1 (x, y) L = Le := ⟨_, rfl⟩
                have HRe : Hid (SR Le = Re) := hid (by rw [← hRe, ← hG, ← HR.out, ← hLe, ← add_union]; exact (SR_union hO (by simpa using okx)).symm)
                have hOe : SetOk Le (40 + 41 * (k + 1)) := by rw [← hLe, ← add_union]; exact (hO.union (m := 1) (by simpa using okx) (by simp)).mono (by omega)
                have hRel : Re.length = Le.length := by rw [← HRe.out, SR_len]
                have hRen : Re.length ≤ 8192 := by have := hOe.len; omega
                obtain ⟨bh, hbh⟩ : ∃ bh, (look (x, y) L).isSome = bh := ⟨_, rfl⟩
                obtain ⟨nb, hnb⟩ : ∃ nb, (!bh) = nb := ⟨_, rfl⟩
                have hwr : decide ((R.length : Int) < (Re.length : Int)) = nb := by
                  have := add_len (L := L) (p := (x, y))
                  rw [hLe, hbh, hnb] at this
                  rw [← this, hRel, HRL.out]
                  simp only [decide_eq_decide]; omega
                have hwr2 := hwr
                have em : (nb != nb) = false := by simp
                have HLe := hid hLe
                have HRe' := hid hRe
                have HBH := hid hbh
                have HNB := hid hnb
                have HWR := hid hwr2
                clear hLe hRe hRel hG hg hbh hnb hwr hwr2
                go_wp2_with (first
                  | (go_at_call 16; refine (pick_is HG.out (by omega) (by omega) w0 w1).mono ?_; rintro e w7 ⟨rfl, rfl⟩))
                have H0 : Below w7.heap.size w7 w7.drew := (Below.refl _ _).drew
                have HEA : Below w7.heap.size w7 (w7.alloc (.cells #[] 32)).drew := ((Below.refl _ _).alloc (Nat.le_refl _) _).drew
                have HEB : Below w7.heap.size w7 ((w7.alloc (.cells #[] 32)).alloc (.cells #[.int .u16 x, .int .u32 y] 32)).drew := (((Below.refl _ _).alloc (Nat.le_refl _) _).alloc (by simp) _).drew
                have HEC0 : Below w7.heap.size w7 (w7.alloc (.cells #[.int .u16 x, .int .u32 y] 32)).drew := ((Below.refl _ _).alloc (Nat.le_refl _) _).drew
                have HEC : Below w7.heap.size w7 ((w7.alloc (.cells #[.int .u16 x, .int .u32 y] 32)).alloc (.cells #[] 32)).drew := (((Below.refl _ _).alloc (Nat.le_refl _) _).alloc (by simp) _).drew
                have HOB : Hid (PidRow ((w7.alloc (.cells #[] 32)).alloc (.cells #[.int .u16 x, .int .u32 y] 32)).drew (some ⟨w7.heap.size + 1, 0, none⟩) [(x, y)]) := hid (by
                  have := PidRow.one (w7.alloc (.cells #[] 32)) x y
                  rw [World.size_alloc] at this
                  exact this.ext (Below.refl _ _).drew)
                have HOC : Hid (PidRow ((w7.alloc (.cells #[.int .u16 x, .int .u32 y] 32)).alloc (.cells #[] 32)).drew (some ⟨w7.heap.size, 0, none⟩) [(x, y)]) := hid ((PidRow.one w7 x y).ext (((Below.refl _ _).alloc (Nat.le_refl _) _).drew))
                have HROW : Hid (∀ W, Below w7.heap.size w7 W → PidRow W ag R) := hid fun W h => hrowa.ext h
                have HF3 : Hid (∀ W, Below w7.heap.size w7 W → W.cell? ⟨wr.heap.size, 1, none⟩ = some (.int .u16 x) ∧ W.cell? ⟨wr.heap.size, 1 + 1, none⟩ = some (.int .u32 y)) := hid fun W h => ⟨cell_to q1 h, cell_to q2 h⟩
                have HSA := hid hSa
                have HBA := hid hBa
                have HQ1 := hid q1
                have HQ2 := hid q2
                clear hSa hrowa hla hBa q1 q2 q3
                go_region_held3 (fun W => Below w7.heap.size w7 W ∧ W.cell? ⟨wr.heap.size, 1, none⟩ = some (.int .u16 x) ∧ W.cell? ⟨wr.heap.size, 1 + 1, none⟩ = some (.int .u32 y)) (first
                  | (refine ⟨?_, HF3.out _ ?_⟩ <;> first | exact H0 | assumption | exact HEA | exact HEB | exact HEC0 | exact HEC | exact Below.alloc (by assumption) (Below.size (by assumption)) _)) (first
                  | (refine step_appendP (by rfl) (PidRow.app_nil (alloc1_at w7 _)) (hid rfl) (HROW.out _ HEA) (by simp; omega) (by simp) rfl rfl rfl ?_; intro v8 w8 hown8 hg8; have hown8' : OwnP w8 w7.heap.size v8 R := (by simpa using hown8); have hb8 : Below w7.heap.size w7 w8 := HEA.grown hg8 (by simp) (fun g hg => by simp [Value.ownBlock] at hg; omega))
                  | (refine step_appendP (by rfl) (PidRow.app_nil (alloc2_old w7 _ _)) (hid rfl) (HROW.out _ HEB) (by simp; omega) (by simp; omega) rfl rfl rfl ?_; intro v8 w8 hown8 hg8; have hown8' : OwnP w8 w7.heap.size v8 R := (by simpa using hown8); have hone := HOB.out.grown hg8 (by simp [Value.ownBlock]); have hb8 : Below w7.heap.size w7 w8 := HEB.grown hg8 (by simp; omega) (fun g hg => by simp [Value.ownBlock] at hg; omega))
                  | (refine step_appendP (by rfl) (PidRow.app_nil (alloc2_at w7 _ _)) (hid rfl) (HROW.out _ HEC) (by simp; omega) (by simp) rfl rfl rfl ?_; intro v8 w8 hown8 hg8; have hown8' : OwnP w8 w7.heap.size v8 R := (OwnP.mono (by simpa using hown8) (by omega)); have hone := HOC.out.grown hg8 (by simp [Value.ownBlock]); have hb8 : Below w7.heap.size w7 w8 := HEC.grown hg8 (by simp; omega) (fun g hg => by simp [Value.ownBlock] at hg; omega))
                  | (refine step_appendP (by rfl) (hown8'.alloc _) (hid rfl) (PidRow.one w8 x y) (by simp; omega) (by have := hb8.size; simp; omega) rfl rfl rfl ?_; intro v9 w9 hown9 hg9; rw [HG0.out] at hown9; have hb9 : Below w7.heap.size w7 w9 := (hb8.alloc hb8.size _).grown hg9 (by have := hb8.size; simp; omega) (fun g hg => (World.ownsRow.lt hown8' g hg).1); obtain ⟨a9, c9, rfl, hrow9, -⟩ := hown9.row)
                  | (refine step_appendP (by rfl) hown8' (hid rfl) hone (by simp; omega) hb8.size rfl rfl rfl ?_; intro v9 w9 hown9 hg9; rw [HG0.out] at hown9; have hb9 : Below w7.heap.size w7 w9 := hb8.grown hg9 hb8.size (fun g hg => (World.ownsRow.lt hown8' g hg).1); obtain ⟨a9, c9, rfl, hrow9, -⟩ := hown9.row)
                  | (go_at_call 35; refine (refSort_is HRe' (by omega) hrow9).mono ?_; rintro e w10 ⟨ae, ce, rfl, hrow10, hb10'⟩; have hb10 : Below w7.heap.size w7 w10 := hb9.trans (hb10'.mono hb9.size)))
                all_goals (
                  have hwr := HWR.out
                  have hwrN : decide (R.length < Re.length) = nb := by rw [← HWR.out]; simp only [decide_eq_decide]; omega
                  have hS10 := HSA.out.ext hb10
                  have q19 := cell_to HQ1.out hb10
                  have q29 := cell_to HQ2.out hb10
                  have hB10 := HBA.out.trans (hb10.mono HBA.out.size)
                  have z10 := hb10.size
                  clear HSA HBA HROW HF3 HQ1 HQ2 hb10 hb10' hb9 hrow9 hown9 hg9 hb8 hown8' hown8 hg8 HEA HEB HEC0 HEC HOB HOC
                  go_wp2_with fail
                  refine (addN_is HBH HNB.out HLe hS10).mono ?_
                  rintro e w11 ⟨rfl, hSe, hm11⟩
                  have hrowe := hrow10.mutMap hm11 hS10.map
                  have q1 := (hm11.cell (p := ⟨wr.heap.size, 1, none⟩) (by simp; omega) hgr).trans q19
                  have q2 := (hm11.cell (p := ⟨wr.heap.size, 1 + 1, none⟩) (by simp; omega) hgr).trans q29
                  have hBe := hB10.trans (hm11.below hB10.size (fun k hk => by omega))
                  clear hm11 hrow10 hS10 q19 q29 hB10 hO H0
                  have ye := hBe.size
                  have HF : Hid (∀ W, Below w11.heap.size w11 W → W.cell? ⟨wr.heap.size, 1, none⟩ = some (.int .u16 x) ∧ W.cell? ⟨wr.heap.size, 1 + 1, none⟩ = some (.int .u32 y)) := hid fun W h => ⟨cell_to q1 h, cell_to q2 h⟩
                  obtain ⟨N, hN⟩ : ∃ N : Nat, Re.length = N := ⟨_, rfl⟩
                  have HLE : Hid (((Le.length : Nat) : Int) = (N : Int)) := hid (by rw [← hN, ← HRe.out, SR_len])
                  have hN2 : N ≤ 8192 := by have := HLE.out; have := hOe.len; omega
                  rw [hN]
                  try rw [hN] at hwr
                  try rw [hN] at hwrN
                  obtain ⟨bs, hbs⟩ : ∃ bs, (look (x, y) Le).isSome = bs := ⟨_, rfl⟩
                  have C1 : Hid (∀ W, Below w11.heap.size w11 W → Calls Try.prog 42 #[.pointer (some ⟨s, 0, none⟩)] W fun e w' => e = .returned (.int .i64 N) ∧ Below w11.heap.size w11 w') := hid fun W h => (len_is HLE (hSe.ext h)).mono (by rintro e w' ⟨rfl, rfl⟩; exact ⟨rfl, h⟩)
                  have C2 : Hid (∀ W, Below w11.heap.size w11 W → Calls Try.prog 43 #[.pointer (some ⟨s, 0, none⟩)] W fun e w' => ∃ a' c', e = .returned (.slice a' N c') ∧ PidRow w' a' Re ∧ Below w11.heap.size w11 w') := hid fun W h => (list_is HRe (hSe.ext h) hOe (by omega)).mono (by rintro e w' ⟨a', c', rfl, h1, h2⟩; exact ⟨a', c', by rw [hN], h1, h.trans (h2.mono h.size)⟩)
                  have C3 : Hid (∀ W a' c', Below w11.heap.size w11 W → PidRow W a' Re → Calls Try.prog 24 #[.slice a' N c', .slice ae N ce] W fun e w' => e = .returned (.bool true) ∧ Below w11.heap.size w11 w') := hid fun W a' c' h hr => by
                    rw [← hN]
                    exact (sameR_is (bm := true) (hid (by simp)) (by omega) (by omega) hr (hrowe.ext h)).mono (by rintro e w' ⟨rfl, h2⟩; exact ⟨rfl, h.trans (h2.mono h.size)⟩)
                  have C4 : Hid (∀ W, Below w11.heap.size w11 W → Calls Try.prog 44 #[.pointer (some ⟨s, 0, none⟩), .agg #[.int .u16 x, .int .u32 y]] W fun e w' => e = .returned (.bool bs) ∧ Below w11.heap.size w11 w') := hid fun W h => (has_any s r Le x y bs W (hSe.ext h) (hid hbs)).mono (by rintro e w' ⟨rfl, h2⟩; exact ⟨rfl, h.trans (h2.mono h.size)⟩)
                  have C5 : Hid (∀ W, Below w11.heap.size w11 W → Calls Try.prog 36 #[.slice ae N ce, .agg #[.int .u16 x, .int .u32 y]] W fun e w' => e = .returned (.bool bs) ∧ Below w11.heap.size w11 w') := hid fun W h => by
                    rw [← hN]
                    exact (hasR_is (bm := bs) (hid (by rw [← hbs, ← SR_has, HRe.out])) (by omega) (hrowe.ext h)).mono (by rintro e w' ⟨rfl, h2⟩; exact ⟨rfl, h.trans (h2.mono h.size)⟩)
                  have HBE := hid hBe
                  have HRW : Hid (∀ W, Below w11.heap.size w11 W → PidRow W ae Re) := hid fun W h => hrowe.ext h
                  have HST : Hid (∀ W, Below w11.heap.size w11 W → SetIs W s r Le) := hid fun W h => hSe.ext h
                  have HN := hid hN
                  have HO := hid hOe
                  have H0 : Below w11.heap.size w11 w11.drew := (Below.refl _ _).drew
                  have en : ((N : Int) != (N : Int)) = false := by simp
                  have eb : (bs != bs) = false := by simp
                  clear hbs hN hOe hSe hBe hrowe q1 q2 HR HLe HRe' HBH HNB HWR
                  go_wp2_with fail
                  skip
                  go_region_held3 (fun W => Below w11.heap.size w11 W ∧ W.cell? ⟨wr.heap.size, 1, none⟩ = some (.int .u16 x) ∧ W.cell? ⟨wr.heap.size, 1 + 1, none⟩ = some (.int .u32 y)) (first
                    | exact ⟨H0, HF.out _ H0⟩
                    | exact ⟨by assumption, HF.out _ (by assumption)⟩) (first
                    | (go_at_call 42; refine (C1.out _ (by assumption)).mono ?_; rintro e w21 ⟨rfl, hb21⟩)
                    | (go_at_call 43; refine (C2.out _ (by assumption)).mono ?_; rintro e w22 ⟨a22, c22, rfl, hr22, hb22⟩)
                    | (go_at_call 24; refine (C3.out _ _ _ (by assumption) (by assumption)).mono ?_; rintro e w23 ⟨rfl, hb23⟩)
                    | (go_at_call 44; refine (C4.out _ (by assumption)).mono ?_; rintro e w24 ⟨rfl, hb24⟩)
                    | (go_at_call 36; refine (C5.out _ (by assumption)).mono ?_; rintro e w25 ⟨rfl, hb25⟩))
                  go_wp2
                  go_roundw
                  case rel => exact ⟨rfl, k + 1, Le, ae, ce, by omega, by omega, by go_num, by rw [show (SR Le).length = N by rw [HRe.out, HN.out]], by rw [show SR Le = Re from HRe.out]; exact HRW.out _ (by assumption), HST.out _ (by assumption), HO.out, HBE.out.trans (Below.mono (by assumption) ye)⟩
                  case measure => simp [intOf]; omega)
        · by_cases hlt : k < xs.length
          · have hl1 : decide (k < xs.length) = true := by simpa using hlt
            have hl2 : decide ((k : Int) < (xs.length : Int)) = true := by simp; omega
            have hl3 : decide (k < 100) = false := by simp; omega
            have hl4 : decide ((k : Int) < 100) = false := by simp; omega
            go_wp2_with (go_at_call 28; refine (awakeSet_any _).mono ?_; rintro e w7 ⟨rfl, hb7⟩)
            go_ret
            exact ⟨rfl, hB.trans (hb7.mono hB.size)⟩
          · have hl1 : decide (k < xs.length) = false := by simp; omega
            have hl2 : decide ((k : Int) < (xs.length : Int)) = false := by simp; omega
            go_wp2_with (go_at_call 28; refine (awakeSet_any _).mono ?_; rintro e w7 ⟨rfl, hb7⟩)
            go_ret
            exact ⟨rfl, hB.trans (hb7.mono hB.size)⟩
    · have HG := hid hgr
      go_enter Try.func7, Try.ntmps7
      go_wp2_with (first
        | (go_at_call 33; refine (greatActs_is HG hx).mono ?_; rintro e w1 ⟨rfl, hb1⟩)
        | (go_at_call 28; refine (awakeSet_any _).mono ?_; rintro e w7 ⟨rfl, hb7⟩))
      go_ret
      exact ⟨rfl, hb1.trans (hb7.mono hb1.size)⟩
end Go.Proofs.Ytjjahefedpfnaaa
