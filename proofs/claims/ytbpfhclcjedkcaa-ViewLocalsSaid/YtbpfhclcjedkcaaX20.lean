import Derived.Test.YtbpfhclcjedkcaaX19
namespace Go.Proofs.Ytbpfhclcjedkcaa
open Go.RowKit

def sameB (A B : View) : Bool := decide (A.id = B.id) && (decide (A.ms = B.ms) && (decide (A.ls = B.ls) && decide (A.ds = B.ds)))
theorem equalFunc_is {a b : Option Addr} {ca cb : Nat} {xs ys : List (List Pid)} {w : World} {bm : Bool} (h : Hid (decide (xs = ys) = bm)) (hn : xs.length ≤ 70368744177664) (hm : ys.length ≤ 70368744177664) (hx : LeafRow w a xs) (hy : LeafRow w b ys)
    (hln : ∀ l ∈ xs, l.length ≤ 70368744177664) (hlm : ∀ l ∈ ys, l.length ≤ 70368744177664) :
   Calls Try.prog 205 #[.slice a xs.length ca, .slice b ys.length cb, .func (.func 88) #[] #[]] w fun e w' => e = .returned (.bool bm) ∧ Below w.heap.size w w' := by
  have := equalFunc_any a b ca cb xs ys w hn hm hx hy hln hlm
  rw [h.out] at this
  exact this

section
variable (A B : View) (am al ad bm bl bd : Option Addr) (cm cl cd em el ed : Nat) (w : World)
set_option maxRecDepth 100000 in
set_option maxHeartbeats 3200000 in
theorem viewSame_any (hA : ViewR w am al ad A) (hB : ViewR w bm bl bd B) :
   Calls Try.prog 140 #[.agg #[.int .u64 A.id, .slice am A.ms.length cm, .slice al A.ls.length cl, .slice ad A.ds.length cd], .agg #[.int .u64 B.id, .slice bm B.ms.length em, .slice bl B.ls.length el, .slice bd B.ds.length ed]] w fun e w' => e = .returned (.bool (sameB A B)) ∧ Below w.heap.size w w' := by
  have hB2 : Below w.heap.size w ((w.alloc (.cells #[.int .u64 A.id, .slice am A.ms.length cm, .slice al A.ls.length cl, .slice ad A.ds.length cd] 33)).alloc (.cells #[.int .u64 B.id, .slice bm B.ms.length em, .slice bl B.ls.length el, .slice bd B.ds.length ed] 33)) := ((Below.refl _ _).alloc (Nat.le_refl _) _).alloc (by simp) _
  have hA2 := hA.ext hB2
  have hBb := hB.ext hB2
  have xA : ViewBox ((w.alloc (.cells #[.int .u64 A.id, .slice am A.ms.length cm, .slice al A.ls.length cl, .slice ad A.ds.length cd] 33)).alloc (.cells #[.int .u64 B.id, .slice bm B.ms.length em, .slice bl B.ls.length el, .slice bd B.ds.length ed] 33)) w.heap.size A am al ad cm cl cd := (ViewBox.made (V := A) w).ext ((Below.refl _ _).alloc (Nat.le_refl _) _) (by simp)
  have xB : ViewBox ((w.alloc (.cells #[.int .u64 A.id, .slice am A.ms.length cm, .slice al A.ls.length cl, .slice ad A.ds.length cd] 33)).alloc (.cells #[.int .u64 B.id, .slice bm B.ms.length em, .slice bl B.ls.length el, .slice bd B.ds.length ed] 33)) (w.heap.size + 1) B bm bl bd em el ed := by
    have := ViewBox.made (V := B) (am := bm) (al := bl) (ad := bd) (cm := em) (cl := el) (cd := ed) (w.alloc (.cells #[.int .u64 A.id, .slice am A.ms.length cm, .slice al A.ls.length cl, .slice ad A.ds.length cd] 33))
    simpa using this
  by_cases h1 : A.id = B.id
  · have h1' : (A.id == B.id) = true := by simpa using h1
    have H1 := hid h1
    clear h1
    cases h2 : decide (A.ms = B.ms)
    · have H2 := hid h2
      clear h2
      go_enter Try.func140, Try.ntmps140
      go_wp2_with (go_at_call 88; refine (equal_is H2 hA.lm hB.lm hA2.ms hBb.ms).mono ?_; rintro e w3 ⟨rfl, hb3⟩)
      go_ret
      exact ⟨ret_bool (by unfold sameB; rw [H2.out]; simp), hB2.trans (hb3.mono hB2.size)⟩
    · have H2 := hid h2
      clear h2
      cases h3 : decide (A.ls = B.ls)
      · have H3 := hid h3
        clear h3
        go_enter Try.func140, Try.ntmps140
        go_wp2_with (first
          | (go_at_call 88; refine (equal_is H2 hA.lm hB.lm hA2.ms hBb.ms).mono ?_; rintro e w3 ⟨rfl, hb3⟩; obtain ⟨a0, a1, a2, a3⟩ := xA.ext hb3 xA.lt; obtain ⟨b0, b1, b2, b3⟩ := xB.ext hb3 xB.lt)
          | (go_at_call 205; refine (equalFunc_is H3 hA.ll hB.ll (hA2.ext hb3).ls (hBb.ext hb3).ls hA.le hB.le).mono ?_; rintro e w4 ⟨rfl, hb4⟩))
        go_ret
        exact ⟨ret_bool (by unfold sameB; rw [H3.out]; simp), (hB2.trans (hb3.mono hB2.size)).trans (hb4.mono (by have := hB2.size; have := hb3.size; omega))⟩
      · have H3 := hid h3
        clear h3
        cases h4 : decide (A.ds = B.ds)
        all_goals
          have H4 := hid h4
          clear h4
          go_enter Try.func140, Try.ntmps140
          go_wp2_with (first
            | (go_at_call_of 88 am; (with_reducible refine (equal_is H2 hA.lm hB.lm hA2.ms hBb.ms).mono ?_); rintro e w3 ⟨rfl, hb3⟩; obtain ⟨a0, a1, a2, a3⟩ := xA.ext hb3 xA.lt; obtain ⟨b0, b1, b2, b3⟩ := xB.ext hb3 xB.lt)
            | (go_at_call 205; refine (equalFunc_is H3 hA.ll hB.ll (hA2.ext hb3).ls (hBb.ext hb3).ls hA.le hB.le).mono ?_; rintro e w4 ⟨rfl, hb4⟩; obtain ⟨d0, d1, d2, d3⟩ := (xA.ext hb3 xA.lt).ext hb4 (by have := xA.lt; have := hb3.size; omega); obtain ⟨e0, e1, e2, e3⟩ := (xB.ext hb3 xB.lt).ext hb4 (by have := xB.lt; have := hb3.size; omega))
            | (go_at_call 88; (with_reducible refine (equal_is H4 hA.ld hB.ld ((hA2.ext hb3).ext hb4).ds ((hBb.ext hb3).ext hb4).ds).mono ?_); rintro e w5 ⟨rfl, hb5⟩))
          go_ret
          exact ⟨ret_bool (by unfold sameB; rw [H2.out, H3.out, H4.out, decide_eq_true H1.out]; rfl), ((hB2.trans (hb3.mono hB2.size)).trans (hb4.mono (by have := hB2.size; have := hb3.size; omega))).trans (hb5.mono (by have := hB2.size; have := hb3.size; have := hb4.size; omega))⟩
  · have h1' : (A.id == B.id) = false := by simpa using h1
    have H1 : Hid (¬ A.id = B.id) := h1
    clear h1
    go_enter Try.func140, Try.ntmps140
    go_wp2
    go_ret
    exact ⟨ret_bool (by unfold sameB; rw [decide_eq_false H1.out]; rfl), hB2⟩

set_option maxRecDepth 100000 in
set_option maxHeartbeats 3200000 in
theorem refSame_any (hA : ViewR w am al ad A) (hB : ViewR w bm bl bd B) :
   Calls Try.prog 20 #[.agg #[.int .u64 A.id, .slice am A.ms.length cm, .slice al A.ls.length cl, .slice ad A.ds.length cd], .agg #[.int .u64 B.id, .slice bm B.ms.length em, .slice bl B.ls.length el, .slice bd B.ds.length ed]] w fun e w' => e = .returned (.bool (sameB A B)) ∧ Below w.heap.size w w' := by
  have hB2 : Below w.heap.size w ((w.alloc (.cells #[.int .u64 A.id, .slice am A.ms.length cm, .slice al A.ls.length cl, .slice ad A.ds.length cd] 33)).alloc (.cells #[.int .u64 B.id, .slice bm B.ms.length em, .slice bl B.ls.length el, .slice bd B.ds.length ed] 33)) := ((Below.refl _ _).alloc (Nat.le_refl _) _).alloc (by simp) _
  have hA2 := hA.ext hB2
  have hBb := hB.ext hB2
  have xA : ViewBox ((w.alloc (.cells #[.int .u64 A.id, .slice am A.ms.length cm, .slice al A.ls.length cl, .slice ad A.ds.length cd] 33)).alloc (.cells #[.int .u64 B.id, .slice bm B.ms.length em, .slice bl B.ls.length el, .slice bd B.ds.length ed] 33)) w.heap.size A am al ad cm cl cd := (ViewBox.made (V := A) w).ext ((Below.refl _ _).alloc (Nat.le_refl _) _) (by simp)
  have xB : ViewBox ((w.alloc (.cells #[.int .u64 A.id, .slice am A.ms.length cm, .slice al A.ls.length cl, .slice ad A.ds.length cd] 33)).alloc (.cells #[.int .u64 B.id, .slice bm B.ms.length em, .slice bl B.ls.length el, .slice bd B.ds.length ed] 33)) (w.heap.size + 1) B bm bl bd em el ed := by
    have := ViewBox.made (V := B) (am := bm) (al := bl) (ad := bd) (cm := em) (cl := el) (cd := ed) (w.alloc (.cells #[.int .u64 A.id, .slice am A.ms.length cm, .slice al A.ls.length cl, .slice ad A.ds.length cd] 33))
    simpa using this
  have hAll := hA.ll
  have hBll := hB.ll
  by_cases h1 : A.id = B.id
  · have h1' : (A.id != B.id) = false := by simpa using h1
    have H1 := hid h1
    clear h1
    cases h2 : decide (A.ms = B.ms)
    · have H2 := hid h2
      clear h2
      go_enter Try.func20, Try.ntmps20
      go_wp2_with (go_at_call 66; refine (sameR_is H2 hA.lm hB.lm hA2.ms hBb.ms).mono ?_; rintro e w3 ⟨rfl, hb3⟩)
      go_ret
      exact ⟨ret_bool (by unfold sameB; rw [H2.out]; simp), hB2.trans (hb3.mono hB2.size)⟩
    · have H2 := hid h2
      clear h2
      cases h4 : decide (A.ds = B.ds)
      · have H4 := hid h4
        clear h4
        go_enter Try.func20, Try.ntmps20
        go_wp2_with (first
          | (go_at_call_of 66 am; (with_reducible refine (sameR_is H2 hA.lm hB.lm hA2.ms hBb.ms).mono ?_); rintro e w3 ⟨rfl, hb3⟩; obtain ⟨a0, a1, a2, a3⟩ := xA.ext hb3 xA.lt; obtain ⟨b0, b1, b2, b3⟩ := xB.ext hb3 xB.lt)
          | (go_at_call 66; (with_reducible refine (sameR_is H4 hA.ld hB.ld (hA2.ext hb3).ds (hBb.ext hb3).ds).mono ?_); rintro e w4 ⟨rfl, hb4⟩))
        go_ret
        exact ⟨ret_bool (by unfold sameB; rw [H4.out]; simp), (hB2.trans (hb3.mono hB2.size)).trans (hb4.mono (by have := hB2.size; have := hb3.size; omega))⟩
      · have H4 := hid h4
        clear h4
        by_cases hl : A.ls.length = B.ls.length
        · have hl' : ((A.ls.length : Int) != (B.ls.length : Int)) = false := by rw [hl]; simp
          have hsp := eqLFrom_eq hl
          have HL := hid hl
          have HSP : Hid (sameB A B = eqLFrom A.ls B.ls) := by unfold sameB Hid; rw [H2.out, H4.out, decide_eq_true H1.out, ← hsp]; simp
          clear hl hsp
          go_enter Try.func20, Try.ntmps20
          go_wp2_with (first
            | (go_at_call_of 66 am; (with_reducible refine (sameR_is H2 hA.lm hB.lm hA2.ms hBb.ms).mono ?_); rintro e w3 ⟨rfl, hb3⟩; obtain ⟨a0, a1, a2, a3⟩ := xA.ext hb3 xA.lt; obtain ⟨b0, b1, b2, b3⟩ := xB.ext hb3 xB.lt)
            | (go_at_call 66; (with_reducible refine (sameR_is H4 hA.ld hB.ld (hA2.ext hb3).ds (hBb.ext hb3).ds).mono ?_); rintro e w4 ⟨rfl, hb4⟩; obtain ⟨d0, d1, d2, d3⟩ := (xA.ext hb3 xA.lt).ext hb4 (by have := xA.lt; have := hb3.size; omega); obtain ⟨e0, e1, e2, e3⟩ := (xB.ext hb3 xB.lt).ext hb4 (by have := xB.lt; have := hb3.size; omega)))
          have s3 := hb3.size
          have s4 := hb4.size
          have s2 := hB2.size
          have xA4 := (xA.ext hb3 xA.lt).ext hb4 (by have := xA.lt; omega)
          have xB4 := (xB.ext hb3 xB.lt).ext hb4 (by have := xB.lt; omega)
          have hA4 := (hA2.ext hb3).ext hb4
          have hB4 := (hBb.ext hb3).ext hb4
          have hW4 : Below w.heap.size w w4 := (hB2.trans (hb3.mono s2)).trans (hb4.mono (by omega))
          clear hb3 hb4 hA2 hBb xA xB a0 a1 a2 a3 b0 b1 b2 b3 d0 d1 d2 d3 e0 e1 e2 e3 hB2
          go_loopw [4, 5] (fun rs kv wr => rs = .bool false ∧ ∃ k : Nat, k ≤ A.ls.length ∧ kv = .int .i64 k ∧ Hid (sameB A B = eqLFrom (A.ls.drop k) (B.ls.drop k)) ∧ Below w4.heap.size w4 wr) (fun _ kv _ => A.ls.length - (intOf kv).toNat)
          case atStart => exact ⟨rfl, 0, Nat.zero_le _, rfl, HSP, Below.refl _ _⟩
          case round =>
            obtain ⟨rfl, k, hk, rfl, ha, hb⟩ := hrel
            obtain ⟨a0, a1, a2, a3⟩ := xA4.ext hb xA4.lt
            obtain ⟨b0, b1, b2, b3⟩ := xB4.ext hb xB4.lt
            by_cases hkt : k < A.ls.length
            · have hkt' : k < B.ls.length := by have := HL.out; omega
              obtain ⟨p1, o1, a1', c1, l1, rfl, hx1, q1, r1⟩ := hA4.ls.at hb rfl hkt
              obtain ⟨p2, o2, a2', c2, l2, rfl, hx2, q2, r2⟩ := hB4.ls.at hb rfl hkt'
              have hl1 : l1.length ≤ 70368744177664 := hA.le l1 (by rw [hx1]; exact List.getElem_mem _)
              have hl2 : l2.length ≤ 70368744177664 := hB.le l2 (by rw [hx2]; exact List.getElem_mem _)
              have hd := eqLFrom_drop hkt hkt' hx1 hx2
              have HD := hid hd
              have u1 := cell_extw a2
              have u2 := cell_extw b2
              have u3 := cell_extw q1
              have u4 := cell_extw q2
              clear hd hx1 hx2
              cases hxy : decide (l1 = l2)
              · have HXY := hid hxy
                clear hxy
                go_wp2
                refine wp_region_ext (w := wr) (Below.refl _ _) (by kernel_rfl) (by kernel_rfl) ?_
                repeat (go_big_quiet_step (exact sameR_ext HXY hl1 hl2 r1 r2))
                refine wpQuiet_nil ?_
                rintro w9 ⟨⟨_, hb9⟩, rfl⟩
                go_wp2
                go_ret
                exact ⟨ret_bool (by rw [ha.out, HD.out, if_neg (of_decide_eq_false HXY.out)]), hW4.trans ((hb.trans (hb9.mono hb.size)).mono hW4.size)⟩
              · have HXY := hid hxy
                clear hxy
                go_wp2
                refine wp_region_ext (w := wr) (Below.refl _ _) (by kernel_rfl) (by kernel_rfl) ?_
                repeat (go_big_quiet_step (exact sameR_ext HXY hl1 hl2 r1 r2))
                refine wpQuiet_nil ?_
                rintro w9 ⟨⟨_, hb9⟩, rfl⟩
                go_wp2
                go_roundw
                case rel => exact ⟨rfl, k + 1, by omega, by go_num, (ha.out.trans (by rw [HD.out, if_pos (of_decide_eq_true HXY.out)]) : _), hb.trans (hb9.mono hb.size)⟩
                case measure => simp [intOf]; omega
            · go_wp2
              go_ret
              exact ⟨ret_bool (by rw [ha.out, List.drop_eq_nil_of_le (by omega)]; rfl), hW4.trans (hb.mono hW4.size)⟩
        · have hl' : ((A.ls.length : Int) != (B.ls.length : Int)) = true := by rw [bne_iff_ne]; omega
          have HNE : Hid (sameB A B = false) := by
            have : decide (A.ls = B.ls) = false := by simp; intro e; exact hl (by rw [e])
            unfold sameB Hid; rw [this]; simp
          clear hl
          go_enter Try.func20, Try.ntmps20
          go_wp2_with (first
            | (go_at_call_of 66 am; (with_reducible refine (sameR_is H2 hA.lm hB.lm hA2.ms hBb.ms).mono ?_); rintro e w3 ⟨rfl, hb3⟩; obtain ⟨a0, a1, a2, a3⟩ := xA.ext hb3 xA.lt; obtain ⟨b0, b1, b2, b3⟩ := xB.ext hb3 xB.lt)
            | (go_at_call 66; (with_reducible refine (sameR_is H4 hA.ld hB.ld (hA2.ext hb3).ds (hBb.ext hb3).ds).mono ?_); rintro e w4 ⟨rfl, hb4⟩; obtain ⟨d0, d1, d2, d3⟩ := (xA.ext hb3 xA.lt).ext hb4 (by have := xA.lt; have := hb3.size; omega); obtain ⟨e0, e1, e2, e3⟩ := (xB.ext hb3 xB.lt).ext hb4 (by have := xB.lt; have := hb3.size; omega)))
          go_ret
          exact ⟨ret_bool HNE.out.symm, (hB2.trans (hb3.mono hB2.size)).trans (hb4.mono (by have := hB2.size; have := hb3.size; omega))⟩
  · have h1' : (A.id != B.id) = true := by simpa using h1
    have H1 : Hid (¬ A.id = B.id) := h1
    clear h1
    go_enter Try.func20, Try.ntmps20
    go_wp2
    go_ret
    exact ⟨ret_bool (by unfold sameB; rw [decide_eq_false H1.out]; rfl), hB2⟩
end
theorem viewSame_ext {A B : View} {am al ad bm bl bd : Option Addr} {cm cl cd em el ed : Nat} {w : World} {U : ExtW w} {r : Bool} (h : Hid (sameB A B = r)) (hA : ViewR w am al ad A) (hB : ViewR w bm bl bd B) :
   Calls Try.prog 140 #[.agg #[.int .u64 A.id, .slice am A.ms.length cm, .slice al A.ls.length cl, .slice ad A.ds.length cd], .agg #[.int .u64 B.id, .slice bm B.ms.length em, .slice bl B.ls.length el, .slice bd B.ds.length ed]] U.W fun e w' => e = .returned (.bool r) ∧ ∃ U' : ExtW w, w' = U'.W :=
  quiet_of (viewSame_any A B am al ad bm bl bd cm cl cd em el ed U.W (hA.ext U.h) (hB.ext U.h)) (by rw [h.out])
theorem refSame_ext {A B : View} {am al ad bm bl bd : Option Addr} {cm cl cd em el ed : Nat} {w : World} {U : ExtW w} {r : Bool} (h : Hid (sameB A B = r)) (hA : ViewR w am al ad A) (hB : ViewR w bm bl bd B) :
   Calls Try.prog 20 #[.agg #[.int .u64 A.id, .slice am A.ms.length cm, .slice al A.ls.length cl, .slice ad A.ds.length cd], .agg #[.int .u64 B.id, .slice bm B.ms.length em, .slice bl B.ls.length el, .slice bd B.ds.length ed]] U.W fun e w' => e = .returned (.bool r) ∧ ∃ U' : ExtW w, w' = U'.W :=
  quiet_of (refSame_any A B am al ad bm bl bd cm cl cd em el ed U.W (hA.ext U.h) (hB.ext U.h)) (by rw [h.out])
theorem sameB_refl (A : View) : sameB A A = true := by simp [sameB]
end Go.Proofs.Ytbpfhclcjedkcaa
