import Derived.Test.YtbpfhclcjedkcaaS1
namespace Go.Proofs.Ytbpfhclcjedkcaa
open Go.RowKit

/-! slices.Equal, slices.EqualFunc -/
set_option maxRecDepth 100000 in
set_option maxHeartbeats 800000 in
theorem equal_any (a b : Option Addr) (ca cb : Nat) (xs ys : List Pid) (w : World) (hn : xs.length ≤ 70368744177664) (hm : ys.length ≤ 70368744177664) (hx : PidRow w a xs) (hy : PidRow w b ys) :
   Calls Try.prog 88 #[.slice a xs.length ca, .slice b ys.length cb] w fun e w' => e = .returned (.bool (decide (xs = ys))) ∧ Below w.heap.size w w' := by
  by_cases hl : xs.length = ys.length
  · have hsp := eqFrom_eq hl
    have hl' : ((xs.length : Int) != (ys.length : Int)) = false := by rw [hl]; simp
    have HL := hid hl
    have HSP := hid hsp
    clear hl hsp
    go_enter Try.func88, Try.ntmps88
    go_wp2
    go_loopw [4, 13] (fun rs kv wr => rs = .bool false ∧ ∃ k : Nat, k ≤ xs.length ∧ kv = .int .i64 k ∧ Hid (decide (xs = ys) = eqFrom (xs.drop k) (ys.drop k)) ∧ Below w.heap.size w wr) (fun _ kv _ => xs.length - (intOf kv).toNat)
    case atStart => exact ⟨rfl, 0, Nat.zero_le _, rfl, HSP, Below.refl _ _⟩
    case round =>
      obtain ⟨rfl, k, hk, rfl, ha, hb⟩ := hrel
      by_cases hkt : k < xs.length
      · have hkt' : k < ys.length := by have := HL.out; omega
        obtain ⟨b1, o1, x1, y1, rfl, hx1, q0, q1⟩ := hx.at hb rfl hkt
        obtain ⟨b2, o2, x2, y2, rfl, hx2, q2, q3⟩ := hy.at hb rfl hkt'
        have hd := eqFrom_drop hkt hkt' hx1 hx2
        have HD := hid hd
        clear hd hx1 hx2
        have he := fun w => neq_pid x1 y1 x2 y2 w
        by_cases hxy : (x1, y1) = (x2, y2)
        · have hxy1 : decide ((x1, y1) = (x2, y2)) = true := by simpa using hxy
          rw [hxy1] at he
          have HXY := hid hxy
          clear hxy hxy1
          go_wp2
          go_quiet (fail)
          go_wp2
          go_roundw
          case rel => exact ⟨rfl, k + 1, by omega, by go_num, (ha.out.trans (by rw [HD.out, if_pos HXY.out]) : _), below_drewN hb _⟩
          case measure => simp [intOf]; omega
        · have hxy1 : decide ((x1, y1) = (x2, y2)) = false := by simpa using hxy
          rw [hxy1] at he
          have HXY : Hid (¬ (x1, y1) = (x2, y2)) := hxy
          clear hxy hxy1
          go_wp2
          go_quiet (fail)
          go_wp2
          go_ret
          exact ⟨ret_bool (by rw [ha.out, HD.out, if_neg HXY.out]), below_drewN hb _⟩
      · go_wp2
        go_ret
        exact ⟨ret_bool (by rw [ha.out, List.drop_eq_nil_of_le (by omega)]; rfl), hb⟩
  · have hne : decide (xs = ys) = false := by simp; intro e; exact hl (by rw [e])
    have hl' : ((xs.length : Int) != (ys.length : Int)) = true := by rw [bne_iff_ne]; omega
    have HN := hid hne
    clear hne hl
    go_enter Try.func88, Try.ntmps88
    go_wp2
    go_ret
    exact ⟨ret_bool HN.out.symm, Below.refl _ _⟩

section
variable {a b : Option Addr} {ca cb : Nat} {xs ys : List Pid} {w : World} {bm : Bool} (h : Hid (decide (xs = ys) = bm)) (hn : xs.length ≤ 70368744177664) (hm : ys.length ≤ 70368744177664) (hx : PidRow w a xs) (hy : PidRow w b ys)
include h hn hm hx hy
theorem equal_is : Calls Try.prog 88 #[.slice a xs.length ca, .slice b ys.length cb] w fun e w' => e = .returned (.bool bm) ∧ Below w.heap.size w w' := by
  have := equal_any a b ca cb xs ys w hn hm hx hy
  rw [h.out] at this
  exact this
end
set_option maxRecDepth 100000 in
set_option maxHeartbeats 1600000 in
theorem equalFunc_any (a b : Option Addr) (ca cb : Nat) (xs ys : List (List Pid)) (w : World) (hn : xs.length ≤ 70368744177664) (hm : ys.length ≤ 70368744177664) (hx : LeafRow w a xs) (hy : LeafRow w b ys)
    (hln : ∀ l ∈ xs, l.length ≤ 70368744177664) (hlm : ∀ l ∈ ys, l.length ≤ 70368744177664) :
   Calls Try.prog 205 #[.slice a xs.length ca, .slice b ys.length cb, .func (.func 88) #[] #[]] w fun e w' => e = .returned (.bool (decide (xs = ys))) ∧ Below w.heap.size w w' := by
  by_cases hl : xs.length = ys.length
  · have hsp := eqLFrom_eq hl
    have hl' : ((xs.length : Int) != (ys.length : Int)) = false := by rw [hl]; simp
    have HL := hid hl
    have HSP := hid hsp
    clear hl hsp
    go_enter Try.func205, Try.ntmps205
    go_wp2
    go_loopw [6, 17] (fun rs kv wr => rs = .bool false ∧ ∃ k : Nat, k ≤ xs.length ∧ kv = .int .i64 k ∧ Hid (decide (xs = ys) = eqLFrom (xs.drop k) (ys.drop k)) ∧ Below w.heap.size w wr) (fun _ kv _ => xs.length - (intOf kv).toNat)
    case atStart => exact ⟨rfl, 0, Nat.zero_le _, rfl, HSP, Below.refl _ _⟩
    case round =>
      obtain ⟨rfl, k, hk, rfl, ha, hb⟩ := hrel
      by_cases hkt : k < xs.length
      · have hkt' : k < ys.length := by have := HL.out; omega
        obtain ⟨b1, o1, a1, c1, l1, rfl, hx1, q1, r1⟩ := hx.at hb rfl hkt
        obtain ⟨b2, o2, a2, c2, l2, rfl, hx2, q2, r2⟩ := hy.at hb rfl hkt'
        have hl1 : l1.length ≤ 70368744177664 := hln l1 (by rw [hx1]; exact List.getElem_mem _)
        have hl2 : l2.length ≤ 70368744177664 := hlm l2 (by rw [hx2]; exact List.getElem_mem _)
        have hd := eqLFrom_drop hkt hkt' hx1 hx2
        have HD := hid hd
        clear hd hx1 hx2
        cases hxy : decide (l1 = l2)
        · have HXY := hid hxy
          clear hxy
          go_wp2_with (go_at_call 88; refine (equal_is HXY hl1 hl2 r1 r2).mono ?_; rintro e w3 ⟨rfl, hb3⟩)
          go_ret
          exact ⟨ret_bool (by rw [ha.out, HD.out, if_neg (of_decide_eq_false HXY.out)]), hb.trans (hb3.mono hb.size)⟩
        · have HXY := hid hxy
          clear hxy
          go_wp2_with (go_at_call 88; refine (equal_is HXY hl1 hl2 r1 r2).mono ?_; rintro e w3 ⟨rfl, hb3⟩)
          go_roundw
          case rel => exact ⟨rfl, k + 1, by omega, by go_num, (ha.out.trans (by rw [HD.out, if_pos (of_decide_eq_true HXY.out)]) : _), hb.trans (hb3.mono hb.size)⟩
          case measure => simp [intOf]; omega
      · go_wp2
        go_ret
        exact ⟨ret_bool (by rw [ha.out, List.drop_eq_nil_of_le (by omega)]; rfl), hb⟩
  · have hne : decide (xs = ys) = false := by simp; intro e; exact hl (by rw [e])
    have hl' : ((xs.length : Int) != (ys.length : Int)) = true := by rw [bne_iff_ne]; omega
    have HN := hid hne
    clear hne hl
    go_enter Try.func205, Try.ntmps205
    go_wp2
    go_ret
    exact ⟨ret_bool HN.out.symm, Below.refl _ _⟩
end Go.Proofs.Ytbpfhclcjedkcaa
