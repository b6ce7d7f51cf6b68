import Derived.Test.YtbpfhclcjedkcaaL2
namespace Go.Proofs.Ytbpfhclcjedkcaa
open Go.RowKit

/-! ### slices.Equal, EqualFunc, the references' Same: lists are the same -/
def eqFrom : List Pid → List Pid → Bool
  | [], _ => true
  | _ :: _, [] => true
  | x :: l, y :: r => if x = y then eqFrom l r else false
theorem eqFrom_drop {xs ys : List Pid} {k : Nat} (h : k < xs.length) (h' : k < ys.length) {p q : Pid} (hp : p = xs[k]) (hq : q = ys[k]) : eqFrom (xs.drop k) (ys.drop k) = if p = q then eqFrom (xs.drop (k + 1)) (ys.drop (k + 1)) else false := by
  rw [List.drop_eq_getElem_cons h, List.drop_eq_getElem_cons h', ← hp, ← hq]; rfl
theorem eqFrom_iff : ∀ {xs ys : List Pid}, xs.length = ys.length → (eqFrom xs ys = true ↔ xs = ys)
  | [], [], _ => by simp [eqFrom]
  | x :: l, y :: r, h => by
    have ih := eqFrom_iff (xs := l) (ys := r) (by simpa using h)
    simp only [eqFrom]
    by_cases hxy : x = y
    · rw [if_pos hxy, ih]; simp [hxy]
    · rw [if_neg hxy]; simp [hxy]
  | [], y :: r, h => by simp at h
  | x :: l, [], h => by simp at h
theorem eqFrom_eq {xs ys : List Pid} (h : xs.length = ys.length) : decide (xs = ys) = eqFrom xs ys := by
  rw [Bool.eq_iff_iff, eqFrom_iff h]; simp

set_option maxRecDepth 100000 in
set_option maxHeartbeats 800000 in
theorem sameR_any (a b : Option Addr) (ca cb : Nat) (xs ys : List Pid) (w : World) (hn : xs.length ≤ 70368744177664) (hm : ys.length ≤ 70368744177664) (hx : PidRow w a xs) (hy : PidRow w b ys) :
   Calls Try.prog 66 #[.slice a xs.length ca, .slice b ys.length cb] w fun e w' => e = .returned (.bool (decide (xs = ys))) ∧ Below w.heap.size w w' := by
  by_cases hl : xs.length = ys.length
  · have hsp := eqFrom_eq hl
    have hl' : ((xs.length : Int) != (ys.length : Int)) = false := by rw [hl]; simp
    have HL := hid hl
    have HSP := hid hsp
    clear hl hsp
    go_enter Try.func66, Try.ntmps66
    go_wp2
    go_loopw [4, 5] (fun rs kv wr => rs = .bool false ∧ ∃ k : Nat, k ≤ xs.length ∧ kv = .int .i64 k ∧ Hid (decide (xs = ys) = eqFrom (xs.drop k) (ys.drop k)) ∧ Below w.heap.size w wr) (fun _ kv _ => xs.length - (intOf kv).toNat)
    case atStart => exact ⟨rfl, 0, Nat.zero_le _, rfl, HSP, Below.refl _ _⟩
    case round =>
      obtain ⟨rfl, k, hk, rfl, ha, hb⟩ := hrel
      by_cases hkt : k < xs.length
      · have hkt' : k < ys.length := by have := HL.out; omega
        obtain ⟨b1, o1, x1, y1, rfl, hx1, q0, q1⟩ := hx.at hb rfl hkt
        obtain ⟨b2, o2, x2, y2, rfl, hx2, q2, q3⟩ := hy.at hb rfl hkt'
        have hd := eqFrom_drop hkt hkt' hx1 hx2
        have HD := hid hd
        clear hd hx1 hx2
        have he := fun w => neq_pid x1 y1 x2 y2 w
        by_cases hxy : (x1, y1) = (x2, y2)
        · have hxy1 : decide ((x1, y1) = (x2, y2)) = true := by simpa using hxy
          rw [hxy1] at he
          have HXY := hid hxy
          clear hxy hxy1
          go_wp2
          go_quiet (fail)
          go_wp2
          go_roundw
          case rel => exact ⟨rfl, k + 1, by omega, by go_num, (ha.out.trans (by rw [HD.out, if_pos HXY.out]) : _), below_drewN hb _⟩
          case measure => simp [intOf]; omega
        · have hxy1 : decide ((x1, y1) = (x2, y2)) = false := by simpa using hxy
          rw [hxy1] at he
          have HXY : Hid (¬ (x1, y1) = (x2, y2)) := hxy
          clear hxy hxy1
          go_wp2
          go_quiet (fail)
          go_wp2
          go_ret
          exact ⟨ret_bool (by rw [ha.out, HD.out, if_neg HXY.out]), below_drewN hb _⟩
      · go_wp2
        go_ret
        exact ⟨ret_bool (by rw [ha.out, List.drop_eq_nil_of_le (by omega)]; rfl), hb⟩
  · have hne : decide (xs = ys) = false := by simp; intro e; exact hl (by rw [e])
    have hl' : ((xs.length : Int) != (ys.length : Int)) = true := by rw [bne_iff_ne]; omega
    have HN := hid hne
    clear hne hl
    go_enter Try.func66, Try.ntmps66
    go_wp2
    go_ret
    exact ⟨ret_bool HN.out.symm, Below.refl _ _⟩

section
variable {a b : Option Addr} {ca cb : Nat} {xs ys : List Pid} {w : World} {bm : Bool} (h : Hid (decide (xs = ys) = bm)) (hn : xs.length ≤ 70368744177664) (hm : ys.length ≤ 70368744177664) (hx : PidRow w a xs) (hy : PidRow w b ys)
include h hn hm hx hy
theorem sameR_is : Calls Try.prog 66 #[.slice a xs.length ca, .slice b ys.length cb] w fun e w' => e = .returned (.bool bm) ∧ Below w.heap.size w w' := by
  have := sameR_any a b ca cb xs ys w hn hm hx hy
  rw [h.out] at this
  exact this
theorem sameR_ext {U : ExtW w} : Calls Try.prog 66 #[.slice a xs.length ca, .slice b ys.length cb] U.W fun e w' => e = .returned (.bool bm) ∧ ∃ U' : ExtW w, w' = U'.W :=
  quiet_of (sameR_any a b ca cb xs ys U.W hn hm (hx.ext U.h) (hy.ext U.h)) (by rw [h.out])
end

/-! lists of lists -/
def eqLFrom : List (List Pid) → List (List Pid) → Bool
  | [], _ => true
  | _ :: _, [] => true
  | x :: l, y :: r => if x = y then eqLFrom l r else false
theorem eqLFrom_drop {xs ys : List (List Pid)} {k : Nat} (h : k < xs.length) (h' : k < ys.length) {p q : List Pid} (hp : p = xs[k]) (hq : q = ys[k]) : eqLFrom (xs.drop k) (ys.drop k) = if p = q then eqLFrom (xs.drop (k + 1)) (ys.drop (k + 1)) else false := by
  rw [List.drop_eq_getElem_cons h, List.drop_eq_getElem_cons h', ← hp, ← hq]; rfl
theorem eqLFrom_iff : ∀ {xs ys : List (List Pid)}, xs.length = ys.length → (eqLFrom xs ys = true ↔ xs = ys)
  | [], [], _ => by simp [eqLFrom]
  | x :: l, y :: r, h => by
    have ih := eqLFrom_iff (xs := l) (ys := r) (by simpa using h)
    simp only [eqLFrom]
    by_cases hxy : x = y
    · rw [if_pos hxy, ih]; simp [hxy]
    · rw [if_neg hxy]; simp [hxy]
  | [], y :: r, h => by simp at h
  | x :: l, [], h => by simp at h
theorem eqLFrom_eq {xs ys : List (List Pid)} (h : xs.length = ys.length) : decide (xs = ys) = eqLFrom xs ys := by
  rw [Bool.eq_iff_iff, eqLFrom_iff h]; simp

end Go.Proofs.Ytbpfhclcjedkcaa
