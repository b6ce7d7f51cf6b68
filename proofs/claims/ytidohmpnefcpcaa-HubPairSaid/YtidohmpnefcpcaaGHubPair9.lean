/- Parts of the proof: X17. -/
import Derived.Test.YtidohmpnefcpcaaKJ
namespace Go.Proofs.Ytidohmpnefcpcaa
open Go.RowKit
def eqB : List Nat → List Nat → Bool
  | [], _ => true
  | _ :: _, [] => true
  | x :: l, y :: r => if x = y then eqB l r else false
theorem eqB_drop {xs ys : List Nat} {k : Nat} (h : k < xs.length) (h' : k < ys.length) {p q : Nat} (hp : p = xs[k]) (hq : q = ys[k]) : eqB (xs.drop k) (ys.drop k) = if p = q then eqB (xs.drop (k + 1)) (ys.drop (k + 1)) else false := by
  rw [List.drop_eq_getElem_cons h, List.drop_eq_getElem_cons h', ← hp, ← hq]; rfl
theorem eqB_iff : ∀ {xs ys : List Nat}, xs.length = ys.length → (eqB xs ys = true ↔ xs = ys)
  | [], [], _ => by simp [eqB]
  | x :: l, y :: r, h => by
    have ih := eqB_iff (xs := l) (ys := r) (by simpa using h)
    simp only [eqB]
    by_cases hxy : x = y
    · rw [if_pos hxy, ih]; simp [hxy]
    · rw [if_neg hxy]; simp [hxy]
  | [], y :: r, h => by simp at h
  | x :: l, [], h => by simp at h
theorem eqB_eq {xs ys : List Nat} (h : xs.length = ys.length) : decide (xs = ys) = eqB xs ys := by
  rw [Bool.eq_iff_iff, eqB_iff h]; simp
set_option maxRecDepth 100000 in
set_option maxHeartbeats 800000 in
theorem sameB_any {a b : Option Addr} {ca cb n m : Nat} {xs ys : List Nat} {w : World} (hn : Hid (xs.length = n)) (hm : Hid (ys.length = m)) (hnl : n ≤ 70368744177664) (hml : m ≤ 70368744177664) (hx : ByteRow w a xs) (hy : ByteRow w b ys) :
   Calls Try.prog 14 #[.slice a n ca, .slice b m cb] w fun e w' => e = .returned (.bool (decide (xs = ys))) ∧ Below w.heap.size w w' := by
  by_cases hl : n = m
  · have hsp := eqB_eq (xs := xs) (ys := ys) (by rw [hn.out, hm.out]; exact hl)
    subst hl
    have hl' : ((n : Int) != (n : Int)) = false := by simp
    have HSP := hid hsp
    clear hsp
    go_enter Try.func14, Try.ntmps14
    go_wp2
    go_loopw [4, 5] (fun rs kv wr => rs = .bool false ∧ ∃ k : Nat, k ≤ n ∧ kv = .int .i64 k ∧ Hid (decide (xs = ys) = eqB (xs.drop k) (ys.drop k)) ∧ Below w.heap.size w wr) (fun _ kv _ => n - (intOf kv).toNat)
    case atStart => exact ⟨rfl, 0, Nat.zero_le _, rfl, HSP, Below.refl _ _⟩
    case round =>
      obtain ⟨rfl, k, hk, rfl, ha, hb⟩ := hrel
      by_cases hkt : k < n
      · have hk1 : k < xs.length := by rw [hn.out]; exact hkt
        have hk2 : k < ys.length := by rw [hm.out]; exact hkt
        obtain ⟨b1, o1, x1, rfl, hx1, q0⟩ := hx.at hb rfl hk1
        obtain ⟨b2, o2, x2, rfl, hx2, q2⟩ := hy.at hb rfl hk2
        have hd := eqB_drop hk1 hk2 hx1 hx2
        have HD := hid hd
        clear hd hx1 hx2
        by_cases hxy : x1 = x2
        · have HXY := hid hxy
          have e1 : ((x1 : Int) != (x2 : Int)) = false := by simp [hxy]
          clear hxy
          go_wp2
          go_quiet (fail)
          go_wp2
          go_roundw
          case rel => exact ⟨rfl, k + 1, by omega, by go_num, (ha.out.trans (by rw [HD.out, if_pos HXY.out]) : _), below_drewN hb _⟩
          case measure => simp [intOf]; omega
        · have HXY : Hid (¬ x1 = x2) := hxy
          have e1 : ((x1 : Int) != (x2 : Int)) = true := by simp; omega
          clear hxy
          go_wp2
          go_quiet (fail)
          go_wp2
          go_ret
          exact ⟨ret_bool (by rw [ha.out, HD.out, if_neg HXY.out]), below_drewN hb _⟩
      · go_wp2
        go_ret
        exact ⟨ret_bool (by rw [ha.out, List.drop_eq_nil_of_le (by rw [hn.out]; omega)]; rfl), hb⟩
  · have hne : decide (xs = ys) = false := by simp; intro e; exact hl (by rw [← hn.out, ← hm.out, e])
    have hl' : ((n : Int) != (m : Int)) = true := by rw [bne_iff_ne]; omega
    have HN := hid hne
    clear hne hl
    go_enter Try.func14, Try.ntmps14
    go_wp2
    go_ret
    exact ⟨ret_bool HN.out.symm, Below.refl _ _⟩
theorem sameB_is {a b : Option Addr} {ca cb n m : Nat} {xs ys : List Nat} {w : World} {bm : Bool} (h : Hid (decide (xs = ys) = bm)) (hn : Hid (xs.length = n)) (hm : Hid (ys.length = m)) (hnl : n ≤ 70368744177664) (hml : m ≤ 70368744177664) (hx : ByteRow w a xs) (hy : ByteRow w b ys) :
   Calls Try.prog 14 #[.slice a n ca, .slice b m cb] w fun e w' => e = .returned (.bool bm) ∧ Below w.heap.size w w' := by
  have := sameB_any (ca := ca) (cb := cb) (w := w) hn hm hnl hml hx hy
  rw [h.out] at this; exact this
/-! ### lent bytes -/
/-- what a row in the making holds, as far as k -/
structure Fill (w : World) (g k : Nat) (F : List Nat) : Prop where
  cells : ∀ j (h : j < F.length), j < k → w.cell? ⟨g, j, none⟩ = some (.int .u8 (F[j] : Nat))
  there : ∀ j, j < F.length → (w.cell? ⟨g, j, none⟩).isSome = true
  fro : ∀ j, w.frozen? ⟨g, j, none⟩ = false
theorem Fill.step {w : World} {g k : Nat} {F : List Nat} (h : Fill w g k F) {x : Nat} (hk : k < F.length) (hx : x = F[k]) : Fill (w.setCell ⟨g, k, none⟩ (.int .u8 x)) g (k + 1) F := by
  refine ⟨fun j hj hjk => ?_, fun j hj => ?_, fun j => by simp [h.fro]⟩
  · by_cases e : j = k
    · subst e
      obtain ⟨v, hv⟩ := Option.isSome_iff_exists.1 (h.there j hj)
      rw [World.cell?_setCell_same _ _ _ hv, hx]
    · rw [World.cell?_setCell_other _ _ _ _ (by simp <;> omega)]
      exact h.cells j hj (by omega)
  · by_cases e : j = k
    · subst e
      obtain ⟨v, hv⟩ := Option.isSome_iff_exists.1 (h.there j hj)
      rw [World.cell?_setCell_same _ _ _ hv]; rfl
    · rw [World.cell?_setCell_other _ _ _ _ (by simp <;> omega)]
      exact h.there j hj
theorem Fill.made (w : World) (Z : Array Value) (F : List Nat) (h : F.length ≤ Z.size) : Fill (w.alloc (.cells Z 5)) w.heap.size 0 F := by
  refine ⟨fun j _ h => by omega, fun j hj => ?_, fun j => by simp⟩
  have : (w.alloc (.cells Z 5)).cell? ⟨w.heap.size, j, none⟩ = Z[j]? := by simp
  rw [this]; simp; omega
theorem Fill.row {w : World} {g k : Nat} {F : List Nat} (h : Fill w g k F) (hk : F.length ≤ k) (hg : g < w.heap.size) : ByteRow w (some ⟨g, 0, none⟩) F :=
  .inr ⟨g, 0, rfl, hg, fun i hi => by rw [Nat.zero_add]; exact h.cells i hi (by omega)⟩
end Go.Proofs.Ytidohmpnefcpcaa

