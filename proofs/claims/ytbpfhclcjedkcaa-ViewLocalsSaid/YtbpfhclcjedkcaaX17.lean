import Derived.Test.YtbpfhclcjedkcaaXT
namespace Go.Proofs.Ytbpfhclcjedkcaa
open Go.RowKit
def eqB : List Nat → List Nat → Bool
  | [], _ => true
  | _ :: _, [] => true
  | x :: l, y :: r => if x = y then eqB l r else false
theorem eqB_drop {xs ys : List Nat} {k : Nat} (h : k < xs.length) (h' : k < ys.length) {p q : Nat} (hp : p = xs[k]) (hq : q = ys[k]) : eqB (xs.drop k) (ys.drop k) = if p = q then eqB (xs.drop (k + 1)) (ys.drop (k + 1)) else false := by
  rw [List.drop_eq_getElem_cons h, List.drop_eq_getElem_cons h', ← hp, ← hq]; rfl
theorem eqB_iff : ∀ {xs ys : List Nat}, xs.length = ys.length → (eqB xs ys = true ↔ xs = ys)
  | [], [], _ => by simp [eqB]
  | x :: l, y :: r, h => by
    have ih := eqB_iff (xs := l) (ys := r) (by simpa using h)
    simp only [eqB]
    by_cases hxy : x = y
    · rw [if_pos hxy, ih]; simp [hxy]
    · rw [if_neg hxy]; simp [hxy]
  | [], y :: r, h => by simp at h
  | x :: l, [], h => by simp at h
theorem eqB_eq {xs ys : List Nat} (h : xs.length = ys.length) : decide (xs = ys) = eqB xs ys := by
  rw [Bool.eq_iff_iff, eqB_iff h]; simp
set_option maxRecDepth 100000 in
set_option maxHeartbeats 800000 in
theorem sameB_any {a b : Option Addr} {ca cb n m : Nat} {xs ys : List Nat} {w : World} (hn : Hid (xs.length = n)) (hm : Hid (ys.length = m)) (hnl : n ≤ 70368744177664) (hml : m ≤ 70368744177664) (hx : ByteRow w a xs) (hy : ByteRow w b ys) :
   Calls Try.prog 30 #[.slice a n ca, .slice b m cb] w fun e w' => e = .returned (.bool (decide (xs = ys))) ∧ Below w.heap.size w w' := by
  by_cases hl : n = m
  · have hsp := eqB_eq (xs := xs) (ys := ys) (by rw [hn.out, hm.out]; exact hl)
    subst hl
    have hl' : ((n : Int) != (n : Int)) = false := by simp
    have HSP := hid hsp
    clear hsp
    go_enter Try.func30, Try.ntmps30
    go_wp2
    go_loopw [4, 5] (fun rs kv wr => rs = .bool false ∧ ∃ k : Nat, k ≤ n ∧ kv = .int .i64 k ∧ Hid (decide (xs = ys) = eqB (xs.drop k) (ys.drop k)) ∧ Below w.heap.size w wr) (fun _ kv _ => n - (intOf kv).toNat)
    case atStart => exact ⟨rfl, 0, Nat.zero_le _, rfl, HSP, Below.refl _ _⟩
    case round =>
      obtain ⟨rfl, k, hk, rfl, ha, hb⟩ := hrel
      by_cases hkt : k < n
      · have hk1 : k < xs.length := by rw [hn.out]; exact hkt
        have hk2 : k < ys.length := by rw [hm.out]; exact hkt
        obtain ⟨b1, o1, x1, rfl, hx1, q0⟩ := hx.at hb rfl hk1
        obtain ⟨b2, o2, x2, rfl, hx2, q2⟩ := hy.at hb rfl hk2
        have hd := eqB_drop hk1 hk2 hx1 hx2
        have HD := hid hd
        clear hd hx1 hx2
        by_cases hxy : x1 = x2
        · have HXY := hid hxy
          have e1 : ((x1 : Int) != (x2 : Int)) = false := by simp [hxy]
          clear hxy
          go_wp2
          go_quiet (fail)
          go_wp2
          go_roundw
          case rel => exact ⟨rfl, k + 1, by omega, by go_num, (ha.out.trans (by rw [HD.out, if_pos HXY.out]) : _), below_drewN hb _⟩
          case measure => simp [intOf]; omega
        · have HXY : Hid (¬ x1 = x2) := hxy
          have e1 : ((x1 : Int) != (x2 : Int)) = true := by simp; omega
          clear hxy
          go_wp2
          go_quiet (fail)
          go_wp2
          go_ret
          exact ⟨ret_bool (by rw [ha.out, HD.out, if_neg HXY.out]), below_drewN hb _⟩
      · go_wp2
        go_ret
        exact ⟨ret_bool (by rw [ha.out, List.drop_eq_nil_of_le (by rw [hn.out]; omega)]; rfl), hb⟩
  · have hne : decide (xs = ys) = false := by simp; intro e; exact hl (by rw [← hn.out, ← hm.out, e])
    have hl' : ((n : Int) != (m : Int)) = true := by rw [bne_iff_ne]; omega
    have HN := hid hne
    clear hne hl
    go_enter Try.func30, Try.ntmps30
    go_wp2
    go_ret
    exact ⟨ret_bool HN.out.symm, Below.refl _ _⟩
theorem sameB_is {a b : Option Addr} {ca cb n m : Nat} {xs ys : List Nat} {w : World} {bm : Bool} (h : Hid (decide (xs = ys) = bm)) (hn : Hid (xs.length = n)) (hm : Hid (ys.length = m)) (hnl : n ≤ 70368744177664) (hml : m ≤ 70368744177664) (hx : ByteRow w a xs) (hy : ByteRow w b ys) :
   Calls Try.prog 30 #[.slice a n ca, .slice b m cb] w fun e w' => e = .returned (.bool bm) ∧ Below w.heap.size w w' := by
  have := sameB_any (ca := ca) (cb := cb) (w := w) hn hm hnl hml hx hy
  rw [h.out] at this; exact this
/-! ### lent bytes -/
/-- what a row in the making holds, as far as k -/
structure Fill (w : World) (g k : Nat) (F : List Nat) : Prop where
  cells : ∀ j (h : j < F.length), j < k → w.cell? ⟨g, j, none⟩ = some (.int .u8 (F[j] : Nat))
  there : ∀ j, j < F.length → (w.cell? ⟨g, j, none⟩).isSome = true
  fro : ∀ j, w.frozen? ⟨g, j, none⟩ = false
theorem Fill.step {w : World} {g k : Nat} {F : List Nat} (h : Fill w g k F) {x : Nat} (hk : k < F.length) (hx : x = F[k]) : Fill (w.setCell ⟨g, k, none⟩ (.int .u8 x)) g (k + 1) F := by
  refine ⟨fun j hj hjk => ?_, fun j hj => ?_, fun j => by simp [h.fro]⟩
  · by_cases e : j = k
    · subst e
      obtain ⟨v, hv⟩ := Option.isSome_iff_exists.1 (h.there j hj)
      rw [World.cell?_setCell_same _ _ _ hv, hx]
    · rw [World.cell?_setCell_other _ _ _ _ (by simp <;> omega)]
      exact h.cells j hj (by omega)
  · by_cases e : j = k
    · subst e
      obtain ⟨v, hv⟩ := Option.isSome_iff_exists.1 (h.there j hj)
      rw [World.cell?_setCell_same _ _ _ hv]; rfl
    · rw [World.cell?_setCell_other _ _ _ _ (by simp <;> omega)]
      exact h.there j hj
theorem Fill.made (w : World) (Z : Array Value) (F : List Nat) (h : F.length ≤ Z.size) : Fill (w.alloc (.cells Z 5)) w.heap.size 0 F := by
  refine ⟨fun j _ h => by omega, fun j hj => ?_, fun j => by simp⟩
  have : (w.alloc (.cells Z 5)).cell? ⟨w.heap.size, j, none⟩ = Z[j]? := by simp
  rw [this]; simp; omega
theorem Fill.row {w : World} {g k : Nat} {F : List Nat} (h : Fill w g k F) (hk : F.length ≤ k) (hg : g < w.heap.size) : ByteRow w (some ⟨g, 0, none⟩) F :=
  .inr ⟨g, 0, rfl, hg, fun i hi => by rw [Nat.zero_add]; exact h.cells i hi (by omega)⟩
theorem run_makeFull (w : World) (n : Nat) (h : n ≤ 549755813888) : (Instr.makeSlice 42 (.int .i64 ((n : Int) + 8)) (.int .i64 ((n : Int) + 8))).run Try.prog w = .ok (.slice (some ⟨w.heap.size, 0, none⟩) (n + 8) (n + 8)) (w.alloc (.cells (madeCells #[.int .u8 0] (n + 8)) 5)) := by
  obtain ⟨i0, hi, hz0, hz1, hz2⟩ := info_parts infoB
  have := run_make (P := Try.prog) w 42 5 i0 (.int .u8 0) Try.underlying42 hi hz0 .i64 .i64 ((n : Int) + 8) ((n : Int) + 8) (by omega) (by omega) (by rw [hz2]; omega) (by omega)
  rw [hz1] at this
  have e1 : ((n : Int) + 8).toNat = n + 8 := by omega
  rw [e1] at this
  simpa [Value.cells] using this
/-- eight more bytes, in which nobody may write -/
def lentL (bs : List Nat) : List Nat := bs ++ List.replicate 8 165
theorem lentL_len (bs : List Nat) : (lentL bs).length = bs.length + 8 := by simp [lentL]
theorem lentL_lo {bs : List Nat} {k : Nat} (h : k < bs.length) (h2 : k < (lentL bs).length) : (lentL bs)[k] = bs[k] := by
  have h3 : k < (bs ++ List.replicate 8 165).length := h2
  exact (List.getElem_append_left h : (bs ++ List.replicate 8 165)[k]'h3 = bs[k])
theorem lentL_hi {bs : List Nat} {k : Nat} (h : bs.length ≤ k) (h2 : k < (lentL bs).length) : (lentL bs)[k] = 165 := by
  have h3 : k < (bs ++ List.replicate 8 165).length := h2
  have h4 : (bs ++ List.replicate 8 165)[k]'h3 = 165 := by rw [List.getElem_append_right h, List.getElem_replicate]
  exact h4
theorem run_uptoB {a : Option Addr} {n c k : Nat} (h : k ≤ c) (W : World) : (Instr.slice 42 (.slice a n c) none (some (.int .i64 k)) none).run Try.prog W = .ok (.slice (if c = 0 then a else a.map (·.add (0 * 1))) (k - 0) (c - 0)) W := by
  have hs : ∀ W, (sizeOf 5).run Try.prog W = .ok 1 W := fun W => Try.sizeOf5 W
  simp [Instr.slice, run_underlying Try.underlying42, Instr.sliceBounds, run_sliceBound, hs, Result.andThen, h]
set_option maxRecDepth 100000 in
set_option maxHeartbeats 1600000 in
theorem lent_any {a : Option Addr} {c n : Nat} {bs : List Nat} {w : World} (hn : Hid (bs.length = n)) (hl : n ≤ 549755813888) (hrow : ByteRow w a bs) :
    Calls Try.prog 38 #[.slice a n c] w fun e w' => ∃ g, e = .returned (.slice (some ⟨g, 0, none⟩) n (n + 8)) ∧ w.heap.size ≤ g ∧ ByteRow w' (some ⟨g, 0, none⟩) (lentL bs) ∧ Below w.heap.size w w' := by
  have hmk := run_makeFull w n hl
  obtain ⟨Z, hZ⟩ : ∃ Z, madeCells #[.int .u8 0] (n + 8) = Z := ⟨_, rfl⟩
  have hZs : Z.size = n + 8 := by rw [← hZ]; exact size_madeCells _ _
  rw [hZ] at hmk
  have hFl : (lentL bs).length = n + 8 := by rw [lentL_len, hn.out]
  have hfill := Fill.made w Z (lentL bs) (by omega)
  have hB : Below w.heap.size w (w.alloc (.cells Z 5)) := (Below.refl _ _).alloc (Nat.le_refl _) _
  have hsz : w.heap.size < (w.alloc (.cells Z 5)).heap.size := by simp
  have hup := fun W => run_uptoB (a := some ⟨w.heap.size, 0, none⟩) (n := n + 8) (c := n + 8) (k := n) (by omega) W
  have e0 : (if n + 8 = 0 then (some ⟨w.heap.size, 0, none⟩ : Option Addr) else (some ⟨w.heap.size, 0, none⟩ : Option Addr).map (·.add (0 * 1))) = some ⟨w.heap.size, 0, none⟩ := by simp [addr_addB]
  simp only [e0, Nat.sub_zero] at hup
  have HF := hid hFl
  have HFILL := hid hfill
  have HSZ := hid hsz
  have hlo : Hid (∀ k, k < n → ∀ x, (∃ h : k < bs.length, x = bs[k]) → ∃ h : k < (lentL bs).length, x = (lentL bs)[k]) := hid (fun k hk x ⟨h, e⟩ => ⟨by rw [hFl]; omega, by rw [lentL_lo h]; exact e⟩)
  have hhi : Hid (∀ k, n ≤ k → k < n + 8 → ∃ h : k < (lentL bs).length, 165 = (lentL bs)[k]) := hid (fun k hk hk2 => ⟨by rw [hFl]; omega, by rw [lentL_hi (by rw [hn.out]; exact hk)]⟩)
  clear hZ hZs hFl hfill hsz e0
  go_enter Try.func38, Try.ntmps38
  go_wp2
  go_loopw [4] (fun i wr => ∃ k : Nat, k ≤ n + 8 ∧ i = .int .i64 k ∧ Fill wr w.heap.size k (lentL bs) ∧ w.heap.size < wr.heap.size ∧ Below w.heap.size w wr) (fun i _ => n + 8 - (intOf i).toNat)
  case atStart => exact ⟨0, Nat.zero_le _, rfl, HFILL.out, HSZ.out, hB⟩
  case round =>
    obtain ⟨k, hk, rfl, hf, hs, hb⟩ := hrel
    by_cases hlt : k < n + 8
    · have t1 : decide ((k : Int) < (n : Int) + 8) = true := by simp; omega
      have t1' : decide (k < n + 8) = true := by simpa using hlt
      have hkl : k < (lentL bs).length := by rw [HF.out]; exact hlt
      obtain ⟨v0, hv0⟩ := Option.isSome_iff_exists.1 (hf.there k hkl)
      have hfr := hf.fro k
      by_cases hkn : k < n
      · have t2 : decide (k < n) = true := by simpa using hkn
        have hkb : k < bs.length := by rw [hn.out]; exact hkn
        obtain ⟨pb, po, x, rfl, hx, d1⟩ := hrow.at hb rfl hkb
        obtain ⟨hk2, hx2⟩ := hlo.out k hkn x ⟨hkb, hx⟩
        have HFS := hid (hf.step hk2 hx2)
        clear hx hx2
        go_wp2
        go_roundw
        case rel => exact ⟨k + 1, by omega, by go_num, HFS.out, by simpa using hs, hb.setCell (by simp) _⟩
        case measure => simp [intOf]; omega
      · have t2 : decide (k < n) = false := by simpa using hkn
        obtain ⟨hk2, hx2⟩ := hhi.out k (by omega) hlt
        have HFS := hid (hf.step hk2 hx2)
        clear hx2
        go_wp2
        go_roundw
        case rel => exact ⟨k + 1, by omega, by go_num, HFS.out, by simpa using hs, hb.setCell (by simp) _⟩
        case measure => simp [intOf]; omega
    · have t1 : decide ((k : Int) < (n : Int) + 8) = false := by simp; omega
      have t1' : decide (k < n + 8) = false := by simpa using hlt
      go_wp2
      go_ret
      exact ⟨w.heap.size, rfl, Nat.le_refl _, hf.row (by rw [HF.out]; omega) hs, hb⟩
set_option maxRecDepth 100000 in
set_option maxHeartbeats 1600000 in
theorem kept_any {g n c : Nat} {b : Option Addr} {bs : List Nat} {w : World} (hn : Hid (bs.length = n)) (hl : n ≤ 549755813888) (hrow : ByteRow w (some ⟨g, 0, none⟩) (lentL bs)) (hy : ByteRow w b bs) :
    Calls Try.prog 42 #[.slice (some ⟨g, 0, none⟩) n (n + 8), .slice b n c] w fun e w' => e = .returned (.bool true) ∧ Below w.heap.size w w' := by
  have hlow : ByteRow w (some ⟨g, 0, none⟩) bs := by
    have := hrow.upto n
    have e : (lentL bs).take n = bs := by unfold lentL; rw [← hn.out, List.take_left]
    rwa [e] at this
  have C1 := hid (sameB_is (ca := n + 8) (cb := c) (bm := true) (hid (by simp)) hn hn (by omega) (by omega) hlow hy)
  have hup := fun W => run_uptoB (a := some ⟨g, 0, none⟩) (n := n) (c := n + 8) (k := n + 8) (Nat.le_refl _) W
  have e0 : (if n + 8 = 0 then (some ⟨g, 0, none⟩ : Option Addr) else (some ⟨g, 0, none⟩ : Option Addr).map (·.add (0 * 1))) = some ⟨g, 0, none⟩ := by simp [addr_addB]
  simp only [e0, Nat.sub_zero, Int.natCast_add] at hup
  have hFl : Hid ((lentL bs).length = n + 8) := hid (by rw [lentL_len, hn.out])
  have HROW := hid hrow
  clear e0 hlow hrow
  go_enter Try.func42, Try.ntmps42
  go_wp2_with (go_at_call 30; refine C1.out.mono ?_; rintro e w1 ⟨rfl, hb1⟩)
  go_loopw [6] (fun i wr => ∃ k : Nat, n ≤ k ∧ k ≤ n + 8 ∧ i = .int .i64 k ∧ Below w.heap.size w wr) (fun i _ => n + 8 - (intOf i).toNat)
  case atStart => exact ⟨n, Nat.le_refl _, by omega, rfl, hb1⟩
  case round =>
    obtain ⟨k, hk0, hk, rfl, hb⟩ := hrel
    by_cases hlt : k < n + 8
    · have t1 : decide ((k : Int) < (n : Int) + 8) = true := by simp; omega
      have t1' : decide (k < n + 8) = true := by simpa using hlt
      obtain ⟨pb, po, x, he, hx, d1⟩ := HROW.out.at hb rfl (show k < (lentL bs).length by rw [hFl.out]; exact hlt)
      cases he
      rw [lentL_hi (by rw [hn.out]; exact hk0)] at hx
      subst hx
      simp only [Nat.zero_add] at d1
      go_wp2
      go_roundw
      case rel => exact ⟨k + 1, by omega, by omega, by go_num, hb⟩
      case measure => simp [intOf]; omega
    · have t1 : decide ((k : Int) < (n : Int) + 8) = false := by simp; omega
      have t1' : decide (k < n + 8) = false := by simpa using hlt
      go_wp2
      go_ret
      exact ⟨rfl, hb⟩
end Go.Proofs.Ytbpfhclcjedkcaa
