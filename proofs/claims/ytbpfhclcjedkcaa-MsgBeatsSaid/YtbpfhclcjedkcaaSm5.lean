/- Parts of the proof: X20 X1 X2 X3 X5a X4. -/
import Derived.Deep.RegionWith
import Derived.Deep.RegionHeld3
import Derived.Laws.MakeOwn
import Derived.Laws.CopyOwn
import Derived.Maps.AppendAt
import Derived.Laws.BitsAllLaws
import Derived.Lib.SliceRun
import Derived.Lib.AppendZerosOnto
import Derived.Test.YtbpfhclcjedkcaaSm1
import Derived.Test.YtbpfhclcjedkcaaSm4
namespace Go.Proofs.Ytbpfhclcjedkcaa
open Go.RowKit

def sameB (A B : View) : Bool := decide (A.id = B.id) && (decide (A.ms = B.ms) && (decide (A.ls = B.ls) && decide (A.ds = B.ds)))
theorem equalFunc_is {a b : Option Addr} {ca cb : Nat} {xs ys : List (List Pid)} {w : World} {bm : Bool} (h : Hid (decide (xs = ys) = bm)) (hn : xs.length ≤ 70368744177664) (hm : ys.length ≤ 70368744177664) (hx : LeafRow w a xs) (hy : LeafRow w b ys)
    (hln : ∀ l ∈ xs, l.length ≤ 70368744177664) (hlm : ∀ l ∈ ys, l.length ≤ 70368744177664) :
   Calls Try.prog 205 #[.slice a xs.length ca, .slice b ys.length cb, .func (.func 88) #[] #[]] w fun e w' => e = .returned (.bool bm) ∧ Below w.heap.size w w' := by
  have := equalFunc_any a b ca cb xs ys w hn hm hx hy hln hlm
  rw [h.out] at this
  exact this

section
variable (A B : View) (am al ad bm bl bd : Option Addr) (cm cl cd em el ed : Nat) (w : World)
set_option maxRecDepth 100000 in
set_option maxHeartbeats 3200000 in
theorem viewSame_any (hA : ViewR w am al ad A) (hB : ViewR w bm bl bd B) :
   Calls Try.prog 140 #[.agg #[.int .u64 A.id, .slice am A.ms.length cm, .slice al A.ls.length cl, .slice ad A.ds.length cd], .agg #[.int .u64 B.id, .slice bm B.ms.length em, .slice bl B.ls.length el, .slice bd B.ds.length ed]] w fun e w' => e = .returned (.bool (sameB A B)) ∧ Below w.heap.size w w' := by
  have hB2 : Below w.heap.size w ((w.alloc (.cells #[.int .u64 A.id, .slice am A.ms.length cm, .slice al A.ls.length cl, .slice ad A.ds.length cd] 33)).alloc (.cells #[.int .u64 B.id, .slice bm B.ms.length em, .slice bl B.ls.length el, .slice bd B.ds.length ed] 33)) := ((Below.refl _ _).alloc (Nat.le_refl _) _).alloc (by simp) _
  have hA2 := hA.ext hB2
  have hBb := hB.ext hB2
  have xA : ViewBox ((w.alloc (.cells #[.int .u64 A.id, .slice am A.ms.length cm, .slice al A.ls.length cl, .slice ad A.ds.length cd] 33)).alloc (.cells #[.int .u64 B.id, .slice bm B.ms.length em, .slice bl B.ls.length el, .slice bd B.ds.length ed] 33)) w.heap.size A am al ad cm cl cd := (ViewBox.made (V := A) w).ext ((Below.refl _ _).alloc (Nat.le_refl _) _) (by simp)
  have xB : ViewBox ((w.alloc (.cells #[.int .u64 A.id, .slice am A.ms.length cm, .slice al A.ls.length cl, .slice ad A.ds.length cd] 33)).alloc (.cells #[.int .u64 B.id, .slice bm B.ms.length em, .slice bl B.ls.length el, .slice bd B.ds.length ed] 33)) (w.heap.size + 1) B bm bl bd em el ed := by
    have := ViewBox.made (V := B) (am := bm) (al := bl) (ad := bd) (cm := em) (cl := el) (cd := ed) (w.alloc (.cells #[.int .u64 A.id, .slice am A.ms.length cm, .slice al A.ls.length cl, .slice ad A.ds.length cd] 33))
    simpa using this
  by_cases h1 : A.id = B.id
  · have h1' : (A.id == B.id) = true := by simpa using h1
    have H1 := hid h1
    clear h1
    cases h2 : decide (A.ms = B.ms)
    · have H2 := hid h2
      clear h2
      go_enter Try.func140, Try.ntmps140
      go_wp2_with (go_at_call 88; refine (equal_is H2 hA.lm hB.lm hA2.ms hBb.ms).mono ?_; rintro e w3 ⟨rfl, hb3⟩)
      go_ret
      exact ⟨ret_bool (by unfold sameB; rw [H2.out]; simp), hB2.trans (hb3.mono hB2.size)⟩
    · have H2 := hid h2
      clear h2
      cases h3 : decide (A.ls = B.ls)
      · have H3 := hid h3
        clear h3
        go_enter Try.func140, Try.ntmps140
        go_wp2_with (first
          | (go_at_call 88; refine (equal_is H2 hA.lm hB.lm hA2.ms hBb.ms).mono ?_; rintro e w3 ⟨rfl, hb3⟩; obtain ⟨a0, a1, a2, a3⟩ := xA.ext hb3 xA.lt; obtain ⟨b0, b1, b2, b3⟩ := xB.ext hb3 xB.lt)
          | (go_at_call 205; refine (equalFunc_is H3 hA.ll hB.ll (hA2.ext hb3).ls (hBb.ext hb3).ls hA.le hB.le).mono ?_; rintro e w4 ⟨rfl, hb4⟩))
        go_ret
        exact ⟨ret_bool (by unfold sameB; rw [H3.out]; simp), (hB2.trans (hb3.mono hB2.size)).trans (hb4.mono (by have := hB2.size; have := hb3.size; omega))⟩
      · have H3 := hid h3
        clear h3
        cases h4 : decide (A.ds = B.ds)
        all_goals
          have H4 := hid h4
          clear h4
          go_enter Try.func140, Try.ntmps140
          go_wp2_with (first
            | (go_at_call_of 88 am; (with_reducible refine (equal_is H2 hA.lm hB.lm hA2.ms hBb.ms).mono ?_); rintro e w3 ⟨rfl, hb3⟩; obtain ⟨a0, a1, a2, a3⟩ := xA.ext hb3 xA.lt; obtain ⟨b0, b1, b2, b3⟩ := xB.ext hb3 xB.lt)
            | (go_at_call 205; refine (equalFunc_is H3 hA.ll hB.ll (hA2.ext hb3).ls (hBb.ext hb3).ls hA.le hB.le).mono ?_; rintro e w4 ⟨rfl, hb4⟩; obtain ⟨d0, d1, d2, d3⟩ := (xA.ext hb3 xA.lt).ext hb4 (by have := xA.lt; have := hb3.size; omega); obtain ⟨e0, e1, e2, e3⟩ := (xB.ext hb3 xB.lt).ext hb4 (by have := xB.lt; have := hb3.size; omega))
            | (go_at_call 88; (with_reducible refine (equal_is H4 hA.ld hB.ld ((hA2.ext hb3).ext hb4).ds ((hBb.ext hb3).ext hb4).ds).mono ?_); rintro e w5 ⟨rfl, hb5⟩))
          go_ret
          exact ⟨ret_bool (by unfold sameB; rw [H2.out, H3.out, H4.out, decide_eq_true H1.out]; rfl), ((hB2.trans (hb3.mono hB2.size)).trans (hb4.mono (by have := hB2.size; have := hb3.size; omega))).trans (hb5.mono (by have := hB2.size; have := hb3.size; have := hb4.size; omega))⟩
  · have h1' : (A.id == B.id) = false := by simpa using h1
    have H1 : Hid (¬ A.id = B.id) := h1
    clear h1
    go_enter Try.func140, Try.ntmps140
    go_wp2
    go_ret
    exact ⟨ret_bool (by unfold sameB; rw [decide_eq_false H1.out]; rfl), hB2⟩

set_option maxRecDepth 100000 in
set_option maxHeartbeats 3200000 in
theorem refSame_any (hA : ViewR w am al ad A) (hB : ViewR w bm bl bd B) :
   Calls Try.prog 20 #[.agg #[.int .u64 A.id, .slice am A.ms.length cm, .slice al A.ls.length cl, .slice ad A.ds.length cd], .agg #[.int .u64 B.id, .slice bm B.ms.length em, .slice bl B.ls.length el, .slice bd B.ds.length ed]] w fun e w' => e = .returned (.bool (sameB A B)) ∧ Below w.heap.size w w' := by
  have hB2 : Below w.heap.size w ((w.alloc (.cells #[.int .u64 A.id, .slice am A.ms.length cm, .slice al A.ls.length cl, .slice ad A.ds.length cd] 33)).alloc (.cells #[.int .u64 B.id, .slice bm B.ms.length em, .slice bl B.ls.length el, .slice bd B.ds.length ed] 33)) := ((Below.refl _ _).alloc (Nat.le_refl _) _).alloc (by simp) _
  have hA2 := hA.ext hB2
  have hBb := hB.ext hB2
  have xA : ViewBox ((w.alloc (.cells #[.int .u64 A.id, .slice am A.ms.length cm, .slice al A.ls.length cl, .slice ad A.ds.length cd] 33)).alloc (.cells #[.int .u64 B.id, .slice bm B.ms.length em, .slice bl B.ls.length el, .slice bd B.ds.length ed] 33)) w.heap.size A am al ad cm cl cd := (ViewBox.made (V := A) w).ext ((Below.refl _ _).alloc (Nat.le_refl _) _) (by simp)
  have xB : ViewBox ((w.alloc (.cells #[.int .u64 A.id, .slice am A.ms.length cm, .slice al A.ls.length cl, .slice ad A.ds.length cd] 33)).alloc (.cells #[.int .u64 B.id, .slice bm B.ms.length em, .slice bl B.ls.length el, .slice bd B.ds.length ed] 33)) (w.heap.size + 1) B bm bl bd em el ed := by
    have := ViewBox.made (V := B) (am := bm) (al := bl) (ad := bd) (cm := em) (cl := el) (cd := ed) (w.alloc (.cells #[.int .u64 A.id, .slice am A.ms.length cm, .slice al A.ls.length cl, .slice ad A.ds.length cd] 33))
    simpa using this
  have hAll := hA.ll
  have hBll := hB.ll
  by_cases h1 : A.id = B.id
  · have h1' : (A.id != B.id) = false := by simpa using h1
    have H1 := hid h1
    clear h1
    cases h2 : decide (A.ms = B.ms)
    · have H2 := hid h2
      clear h2
      go_enter Try.func20, Try.ntmps20
      go_wp2_with (go_at_call 66; refine (sameR_is H2 hA.lm hB.lm hA2.ms hBb.ms).mono ?_; rintro e w3 ⟨rfl, hb3⟩)
      go_ret
      exact ⟨ret_bool (by unfold sameB; rw [H2.out]; simp), hB2.trans (hb3.mono hB2.size)⟩
    · have H2 := hid h2
      clear h2
      cases h4 : decide (A.ds = B.ds)
      · have H4 := hid h4
        clear h4
        go_enter Try.func20, Try.ntmps20
        go_wp2_with (first
          | (go_at_call_of 66 am; (with_reducible refine (sameR_is H2 hA.lm hB.lm hA2.ms hBb.ms).mono ?_); rintro e w3 ⟨rfl, hb3⟩; obtain ⟨a0, a1, a2, a3⟩ := xA.ext hb3 xA.lt; obtain ⟨b0, b1, b2, b3⟩ := xB.ext hb3 xB.lt)
          | (go_at_call 66; (with_reducible refine (sameR_is H4 hA.ld hB.ld (hA2.ext hb3).ds (hBb.ext hb3).ds).mono ?_); rintro e w4 ⟨rfl, hb4⟩))
        go_ret
        exact ⟨ret_bool (by unfold sameB; rw [H4.out]; simp), (hB2.trans (hb3.mono hB2.size)).trans (hb4.mono (by have := hB2.size; have := hb3.size; omega))⟩
      · have H4 := hid h4
        clear h4
        by_cases hl : A.ls.length = B.ls.length
        · have hl' : ((A.ls.length : Int) != (B.ls.length : Int)) = false := by rw [hl]; simp
          have hsp := eqLFrom_eq hl
          have HL := hid hl
          have HSP : Hid (sameB A B = eqLFrom A.ls B.ls) := by unfold sameB Hid; rw [H2.out, H4.out, decide_eq_true H1.out, ← hsp]; simp
          clear hl hsp
          go_enter Try.func20, Try.ntmps20
          go_wp2_with (first
            | (go_at_call_of 66 am; (with_reducible refine (sameR_is H2 hA.lm hB.lm hA2.ms hBb.ms).mono ?_); rintro e w3 ⟨rfl, hb3⟩; obtain ⟨a0, a1, a2, a3⟩ := xA.ext hb3 xA.lt; obtain ⟨b0, b1, b2, b3⟩ := xB.ext hb3 xB.lt)
            | (go_at_call 66; (with_reducible refine (sameR_is H4 hA.ld hB.ld (hA2.ext hb3).ds (hBb.ext hb3).ds).mono ?_); rintro e w4 ⟨rfl, hb4⟩; obtain ⟨d0, d1, d2, d3⟩ := (xA.ext hb3 xA.lt).ext hb4 (by have := xA.lt; have := hb3.size; omega); obtain ⟨e0, e1, e2, e3⟩ := (xB.ext hb3 xB.lt).ext hb4 (by have := xB.lt; have := hb3.size; omega)))
          have s3 := hb3.size
          have s4 := hb4.size
          have s2 := hB2.size
          have xA4 := (xA.ext hb3 xA.lt).ext hb4 (by have := xA.lt; omega)
          have xB4 := (xB.ext hb3 xB.lt).ext hb4 (by have := xB.lt; omega)
          have hA4 := (hA2.ext hb3).ext hb4
          have hB4 := (hBb.ext hb3).ext hb4
          have hW4 : Below w.heap.size w w4 := (hB2.trans (hb3.mono s2)).trans (hb4.mono (by omega))
          clear hb3 hb4 hA2 hBb xA xB a0 a1 a2 a3 b0 b1 b2 b3 d0 d1 d2 d3 e0 e1 e2 e3 hB2
          go_loopw [4, 5] (fun rs kv wr => rs = .bool false ∧ ∃ k : Nat, k ≤ A.ls.length ∧ kv = .int .i64 k ∧ Hid (sameB A B = eqLFrom (A.ls.drop k) (B.ls.drop k)) ∧ Below w4.heap.size w4 wr) (fun _ kv _ => A.ls.length - (intOf kv).toNat)
          case atStart => exact ⟨rfl, 0, Nat.zero_le _, rfl, HSP, Below.refl _ _⟩
          case round =>
            obtain ⟨rfl, k, hk, rfl, ha, hb⟩ := hrel
            obtain ⟨a0, a1, a2, a3⟩ := xA4.ext hb xA4.lt
            obtain ⟨b0, b1, b2, b3⟩ := xB4.ext hb xB4.lt
            by_cases hkt : k < A.ls.length
            · have hkt' : k < B.ls.length := by have := HL.out; omega
              obtain ⟨p1, o1, a1', c1, l1, rfl, hx1, q1, r1⟩ := hA4.ls.at hb rfl hkt
              obtain ⟨p2, o2, a2', c2, l2, rfl, hx2, q2, r2⟩ := hB4.ls.at hb rfl hkt'
              have hl1 : l1.length ≤ 70368744177664 := hA.le l1 (by rw [hx1]; exact List.getElem_mem _)
              have hl2 : l2.length ≤ 70368744177664 := hB.le l2 (by rw [hx2]; exact List.getElem_mem _)
              have hd := eqLFrom_drop hkt hkt' hx1 hx2
              have HD := hid hd
              have u1 := cell_extw a2
              have u2 := cell_extw b2
              have u3 := cell_extw q1
              have u4 := cell_extw q2
              clear hd hx1 hx2
              cases hxy : decide (l1 = l2)
              · have HXY := hid hxy
                clear hxy
                go_wp2
                refine wp_region_ext (w := wr) (Below.refl _ _) (by kernel_rfl) (by kernel_rfl) ?_
                repeat (go_big_quiet_step (exact sameR_ext HXY hl1 hl2 r1 r2))
                refine wpQuiet_nil ?_
                rintro w9 ⟨⟨_, hb9⟩, rfl⟩
                go_wp2
                go_ret
                exact ⟨ret_bool (by rw [ha.out, HD.out, if_neg (of_decide_eq_false HXY.out)]), hW4.trans ((hb.trans (hb9.mono hb.size)).mono hW4.size)⟩
              · have HXY := hid hxy
                clear hxy
                go_wp2
                refine wp_region_ext (w := wr) (Below.refl _ _) (by kernel_rfl) (by kernel_rfl) ?_
                repeat (go_big_quiet_step (exact sameR_ext HXY hl1 hl2 r1 r2))
                refine wpQuiet_nil ?_
                rintro w9 ⟨⟨_, hb9⟩, rfl⟩
                go_wp2
                go_roundw
                case rel => exact ⟨rfl, k + 1, by omega, by go_num, (ha.out.trans (by rw [HD.out, if_pos (of_decide_eq_true HXY.out)]) : _), hb.trans (hb9.mono hb.size)⟩
                case measure => simp [intOf]; omega
            · go_wp2
              go_ret
              exact ⟨ret_bool (by rw [ha.out, List.drop_eq_nil_of_le (by omega)]; rfl), hW4.trans (hb.mono hW4.size)⟩
        · have hl' : ((A.ls.length : Int) != (B.ls.length : Int)) = true := by rw [bne_iff_ne]; omega
          have HNE : Hid (sameB A B = false) := by
            have : decide (A.ls = B.ls) = false := by simp; intro e; exact hl (by rw [e])
            unfold sameB Hid; rw [this]; simp
          clear hl
          go_enter Try.func20, Try.ntmps20
          go_wp2_with (first
            | (go_at_call_of 66 am; (with_reducible refine (sameR_is H2 hA.lm hB.lm hA2.ms hBb.ms).mono ?_); rintro e w3 ⟨rfl, hb3⟩; obtain ⟨a0, a1, a2, a3⟩ := xA.ext hb3 xA.lt; obtain ⟨b0, b1, b2, b3⟩ := xB.ext hb3 xB.lt)
            | (go_at_call 66; (with_reducible refine (sameR_is H4 hA.ld hB.ld (hA2.ext hb3).ds (hBb.ext hb3).ds).mono ?_); rintro e w4 ⟨rfl, hb4⟩; obtain ⟨d0, d1, d2, d3⟩ := (xA.ext hb3 xA.lt).ext hb4 (by have := xA.lt; have := hb3.size; omega); obtain ⟨e0, e1, e2, e3⟩ := (xB.ext hb3 xB.lt).ext hb4 (by have := xB.lt; have := hb3.size; omega)))
          go_ret
          exact ⟨ret_bool HNE.out.symm, (hB2.trans (hb3.mono hB2.size)).trans (hb4.mono (by have := hB2.size; have := hb3.size; omega))⟩
  · have h1' : (A.id != B.id) = true := by simpa using h1
    have H1 : Hid (¬ A.id = B.id) := h1
    clear h1
    go_enter Try.func20, Try.ntmps20
    go_wp2
    go_ret
    exact ⟨ret_bool (by unfold sameB; rw [decide_eq_false H1.out]; rfl), hB2⟩
end
theorem sameB_refl (A : View) : sameB A A = true := by simp [sameB]
end Go.Proofs.Ytbpfhclcjedkcaa

namespace Go.Proofs.Ytbpfhclcjedkcaa
open Go.RowKit
/-! ### bytes -/
theorem addr_addB (b off n : Nat) : (⟨b, off, none⟩ : Addr).add n = ⟨b, off + n, none⟩ := by
  unfold Addr.add; split <;> simp_all
theorem cell_toB {w wr : World} {a : Addr} {v : Value} (h : w.cell? a = some v) (hb : Below w.heap.size w wr) : wr.cell? a = some v := (hb.cell (World.block_lt_of_cell? w _ h)).trans h
def u8V (b : Nat) : Value := .int .u8 b
def u8C (bs : List Nat) : List Value := bs.map u8V
theorem u8C_len (bs : List Nat) : (u8C bs).length = bs.length := by simp [u8C]
theorem u8C_app (xs ys : List Nat) : u8C (xs ++ ys) = u8C xs ++ u8C ys := by simp [u8C]
theorem u8C_one (xs : List Nat) : ∀ u ∈ u8C xs, u.oneCell' = true := by
  intro u hu
  obtain ⟨b, _, rfl⟩ := List.mem_map.1 hu
  rfl
/-- the row of bytes behind a slice's address -/
def ByteRow (w : World) (a : Option Addr) (bs : List Nat) : Prop :=
  bs = [] ∨ ∃ b off, a = some ⟨b, off, none⟩ ∧ b < w.heap.size ∧ ∀ i (h : i < bs.length), w.cell? ⟨b, off + i, none⟩ = some (.int .u8 (bs[i] : Nat))
theorem ByteRow.ext {w w' : World} {a : Option Addr} {bs : List Nat} (h : ByteRow w a bs) (hb : Below w.heap.size w w') : ByteRow w' a bs := by
  rcases h with rfl | ⟨b, off, rfl, hlt, hc⟩
  · exact .inl rfl
  · exact .inr ⟨b, off, rfl, by have := hb.size; omega, fun i hi => by rw [hb.cell (by exact hlt)]; exact hc i hi⟩
theorem ByteRow.alloc {w : World} {a : Option Addr} {bs : List Nat} (h : ByteRow w a bs) (o : Obj) : ByteRow (w.alloc o) a bs := h.ext ((Below.refl _ _).alloc (Nat.le_refl _) _)
theorem ByteRow.grown {w w' : World} {a : Option Addr} {bs : List Nat} {row : Option Nat} (h : ByteRow w a bs) (hg : w.grownBy w' row) (hne : ∀ b off, a = some ⟨b, off, none⟩ → bs ≠ [] → row ≠ some b) : ByteRow w' a bs := by
  rcases h with rfl | ⟨b, off, rfl, hlt, hc⟩
  · exact .inl rfl
  · by_cases hl : bs = []
    · exact .inl hl
    · have hb := hg.block b hlt (fun e => hne b off rfl hl e.symm)
      exact .inr ⟨b, off, rfl, by have := hg.size; omega, fun i hi => (World.cell?_of_block (w := w) hb).trans (hc i hi)⟩
/-- the k-th byte, in any later world -/
theorem ByteRow.at {w wr : World} {a : Option Addr} {bs : List Nat} (h : ByteRow w a bs) {B : Nat} (hb : Below B w wr) (hB : B = w.heap.size) {k : Nat} (hk : k < bs.length) :
    ∃ b off x, a = some ⟨b, off, none⟩ ∧ x = bs[k] ∧ wr.cell? ⟨b, off + k, none⟩ = some (.int .u8 (x : Nat)) := by
  subst hB
  rcases h with rfl | ⟨b, off, rfl, hlt, hc⟩
  · simp at hk
  · exact ⟨b, off, bs[k], rfl, rfl, by rw [hb.cell (by exact hlt)]; exact hc k hk⟩
theorem ByteRow.cells {w : World} {b off : Nat} {bs : List Nat} (hc : ∀ i (h : i < bs.length), w.cell? ⟨b, off + i, none⟩ = some (.int .u8 (bs[i] : Nat))) :
    ∀ j u, (u8C bs)[j]? = some u → w.cell? ((⟨b, off, none⟩ : Addr).add j) = some u := by
  intro j u hu
  have hj : j < (u8C bs).length := (List.getElem?_eq_some_iff.1 hu).1
  rw [u8C_len] at hj
  rw [addr_addB]
  rw [hc j hj, ← hu]
  simp [u8C, u8V, hj]
/-- a cut of the row -/
theorem ByteRow.from {w : World} {a : Option Addr} {bs : List Nat} {k : Nat} {b off : Nat} (ha : a = some ⟨b, off, none⟩) (h : ByteRow w a bs) : ByteRow w (some ⟨b, off + k, none⟩) (bs.drop k) := by
  subst ha
  rcases h with rfl | ⟨b', off', e, hlt, hc⟩
  · exact .inl (by simp)
  · cases e
    refine .inr ⟨b, off + k, rfl, hlt, fun i hi => ?_⟩
    have := hc (k + i) (by simp at hi; omega)
    rw [List.getElem_drop, Nat.add_assoc]; exact this
theorem ByteRow.upto {w : World} {a : Option Addr} {bs : List Nat} (k : Nat) (h : ByteRow w a bs) : ByteRow w a (bs.take k) := by
  rcases h with rfl | ⟨b, off, rfl, hlt, hc⟩
  · exact .inl (by simp)
  · exact .inr ⟨b, off, rfl, hlt, fun i hi => by rw [List.getElem_take]; exact hc i (by simp at hi; omega)⟩

theorem infoB : (Try.prog.info? 5).map (fun i => (i.zero, i.size, i.bytes)) = some (some (.int .u8 0), 1, 1) := by kernel_rfl
/-- a slice value that owns a row of bytes, from block base on -/
def OwnB (w : World) (base : Nat) (v : Value) (bs : List Nat) : Prop := w.ownsRow base 5 1 v bs.length (u8C bs)
theorem OwnB.nil (w : World) (base : Nat) : OwnB w base (.slice none 0 0) [] := World.ownsRow_nil _ _ _ _
theorem OwnB.ext {w w' : World} {base : Nat} {v : Value} {bs : List Nat} (h : OwnB w base v bs) (hb : Below w.heap.size w w') : OwnB w' base v bs := by
  refine ⟨h.1, ?_⟩
  rcases h.2 with hn | ⟨g, cap, cur, rfl, hbb, hgg, rest⟩
  · exact .inl hn
  · exact .inr ⟨g, cap, cur, rfl, hbb, (hb.block g (Array.getElem?_eq_some_iff.1 hgg).1).trans hgg, rest⟩
theorem OwnB.alloc {w : World} {base : Nat} {v : Value} {bs : List Nat} (h : OwnB w base v bs) (o : Obj) : OwnB (w.alloc o) base v bs := h.ext ((Below.refl _ _).alloc (Nat.le_refl _) _)
theorem OwnB.mono {w : World} {b b' : Nat} {v : Value} {bs : List Nat} (h : OwnB w b v bs) (hb : b' ≤ b) : OwnB w b' v bs := by
  refine ⟨h.1, ?_⟩
  rcases h.2 with hn | ⟨g, cap, cur, rfl, hbb, rest⟩
  · exact .inl hn
  · exact .inr ⟨g, cap, cur, rfl, Nat.le_trans hb hbb, rest⟩
theorem OwnB.row {w : World} {base : Nat} {v : Value} {bs : List Nat} (h : OwnB w base v bs) : ∃ a c, v = .slice a bs.length c ∧ ByteRow w a bs ∧ ∀ b off, a = some ⟨b, off, none⟩ → base ≤ b := by
  have hcells := fun g => World.ownsRow.cells (g := g) h
  rcases h.2 with ⟨rfl, hn⟩ | ⟨g, cap, cur, rfl, hb, hg, hnc, hcm, hcs, htake⟩
  · exact ⟨none, 0, by rw [hn], .inl (List.length_eq_zero_iff.1 hn), by simp⟩
  · refine ⟨_, cap, rfl, .inr ⟨g, 0, rfl, (Array.getElem?_eq_some_iff.1 hg).1, fun i hi => ?_⟩, fun b off e => by cases e; exact hb⟩
    have h1 := hcells g rfl i (.int .u8 (bs[i] : Nat)) (by simp [u8C, u8V, hi])
    rw [addr_addB] at h1
    exact h1
theorem OwnB.butT {w w' : World} {base t : Nat} {v : Value} {bs : List Nat} (h : OwnB w base v bs) (hb : ∀ k, k ≠ t → w'.heap[k]? = w.heap[k]?) (ht : some t ≠ v.ownBlock) : OwnB w' base v bs := by
  refine ⟨h.1, ?_⟩
  rcases h.2 with hn | ⟨g, cap, cur, rfl, hbb, hgg, rest⟩
  · exact .inl hn
  · exact .inr ⟨g, cap, cur, rfl, hbb, (hb g (fun e => ht (by rw [e]; rfl))).trans hgg, rest⟩
theorem run_appendB {w : World} {base : Nat} {v : Value} {xs ys : List Nat} (hown : OwnB w base v xs) {a : Option Addr} {c : Nat} (hy : ByteRow w a ys) (hlen : xs.length + ys.length ≤ 1099511627776) (hbase : base ≤ w.heap.size) (ty : TypeId) :
    ∃ v' w', (Builtin.append_ #[42, 42] ty #[v, .slice a ys.length c]).run Try.prog w = .ok v' w' ∧ OwnB w' base v' (xs ++ ys) ∧ w.grownBy w' v.ownBlock ∧ (v'.ownBlock = v.ownBlock ∨ v'.ownBlock = some w.heap.size) := by
  obtain ⟨i0, hi, hz0, hz1, hz2⟩ := info_parts infoB
  have main : ∀ ad : Addr, a = some ad → (∀ j u, (u8C ys)[j]? = some u → w.cell? (ad.add j) = some u) → ∃ v' w', (Builtin.append_ #[42, 42] ty #[v, .slice a ys.length c]).run Try.prog w = .ok v' w' ∧ OwnB w' base v' (xs ++ ys) ∧ w.grownBy w' v.ownBlock ∧ (v'.ownBlock = v.ownBlock ∨ v'.ownBlock = some w.heap.size) := by
    intro ad he hc
    subst he
    obtain ⟨v', w', hr, h2, h3, h4, h5⟩ := run_append_own_at (P := Try.prog) w base 42 ty 5 i0 _ 1 1 Try.underlying42 hi hz0 hz1 hz2 rfl (by decide) v xs.length (u8C xs) hown ad ys.length c (u8C ys) (by rw [u8C_len]; omega) hc (u8C_one ys) (by unfold maxLen; omega) (by omega) hbase
    refine ⟨v', w', hr, ?_, h3, h5⟩
    unfold OwnB; rw [List.length_append, u8C_app]; exact h2
  rcases hy with rfl | ⟨b, off, rfl, hlt, hc⟩
  · cases a with
    | some ad => exact main ad rfl (by simp [u8C])
    | none =>
      refine ⟨v, w, ?_, by simpa using hown, ⟨rfl, rfl, rfl, Nat.le_refl _, fun _ _ _ => rfl⟩, .inl rfl⟩
      rcases hown.2 with ⟨rfl, hn⟩ | ⟨g, cap, cur, rfl, hb, hg, hnc, hcm, hcs, htake⟩
      · simp [Builtin.append_, run_underlying Try.underlying42, sizeOf, typeInfo, hi, Builtin.lenOf, Builtin.firstCells]
      · simp [Builtin.append_, run_underlying Try.underlying42, sizeOf, typeInfo, hi, Builtin.lenOf, Builtin.firstCells, hnc, storeCells]
  · exact main _ rfl (ByteRow.cells hc)
/-- 'append(out, ys...)' at the operation -/
theorem wpList_appendB {w : World} {ops : Array Oper} {rest : List Oper} {o : Oper} {a : Act} {Q : Exit → Act → World → Prop} {s x : Operand} {base : Nat} {v : Value} {xs ys : List Nat} (hown : OwnB w base v xs) {ad : Option Addr} {c n : Nat} (hy : ByteRow w ad ys) (hn : Hid (ys.length = n))
    (hlen : xs.length + n ≤ 1099511627776) (hbase : base ≤ w.heap.size)
    (hg : o.guard = none) (ho : o.op = .call { callee := .builtin .append, args := #[s, x], argTypes := #[42, 42] }) (hs : a.eval s = v) (hx : a.eval x = .slice ad n c)
    (h : ∀ v' w', OwnB w' base v' (xs ++ ys) → w.grownBy w' v.ownBlock → (v'.ownBlock = v.ownBlock ∨ v'.ownBlock = some w.heap.size) → wpList Try.prog ops Q rest (a.put o.dst v') w') : wpList Try.prog ops Q (o :: rest) a w := by
  have hn := hn.out; subst hn
  obtain ⟨v', w', hr, h2, h3, h4⟩ := run_appendB hown (c := c) hy hlen hbase o.type
  exact Lib.wpList_append_run w hg s x 42 42 ho _ _ hs hx v' w' hr (h v' w' h2 h3 h4)
/-- one byte in a block of its own -/
theorem ByteRow.one (w : World) (x : Nat) : ByteRow (w.alloc (.cells #[.int .u8 x] 5)) (some ⟨w.heap.size, 0, none⟩) [x] :=
  .inr ⟨w.heap.size, 0, rfl, by simp, fun i hi => by have : i = 0 := by simpa using hi
                                                     subst this; simp⟩
theorem below_of_grown {B : Nat} {w0 w w' : World} {base : Nat} {v : Value} {xs : List Nat} (hb : Below B w0 w) (hg : w.grownBy w' v.ownBlock) (hown : OwnB w base v xs) (hB : B ≤ w.heap.size) (hbase : B ≤ base) : Below B w0 w' :=
  hb.grown hg hB (fun g hg => Nat.le_trans hbase (World.ownsRow.lt hown g hg).1)
theorem run_makeB (w : World) (n m : Nat) (h : n + m ≤ 1099511627776) : (Instr.makeSlice 42 (.int .i64 (n : Nat)) (.int .i64 ((n : Int) + (m : Int)))).run Try.prog w = .ok (.slice (some ⟨w.heap.size, 0, none⟩) n (n + m)) (w.alloc (.cells (madeCells #[.int .u8 0] (n + m)) 5)) := by
  obtain ⟨i0, hi, hz0, hz1, hz2⟩ := info_parts infoB
  have := run_make (P := Try.prog) w 42 5 i0 (.int .u8 0) Try.underlying42 hi hz0 .i64 .i64 (n : Nat) ((n : Int) + (m : Int)) (by omega) (by omega) (by rw [hz2]; omega) (by omega)
  rw [hz1] at this
  have e1 : ((n : Int) + (m : Int)).toNat = n + m := by omega
  have e2 : ((n : Nat) : Int).toNat = n := by omega
  rw [e1, e2] at this
  simpa [Value.cells] using this

/-! ### short forms -/
def short (n : Nat) : List Nat := if h : n < 128 then [n] else (n % 128 + 128) :: short (n / 128)
termination_by n
decreasing_by omega
theorem short_lt {n : Nat} (h : n < 128) : short n = [n] := by rw [short]; simp [h]
theorem short_ge {n : Nat} (h : ¬ n < 128) : short n = (n % 128 + 128) :: short (n / 128) := by rw [short]; simp [h]
theorem short_len : ∀ (k n : Nat), n < 128 ^ (k + 1) → (short n).length ≤ k + 1
  | 0, n, h => by rw [short_lt (by simpa using h)]; simp
  | k + 1, n, h => by
    by_cases hn : n < 128
    · rw [short_lt hn]; simp
    · rw [short_ge hn]
      have := short_len k (n / 128) (by rw [Nat.pow_succ] at h; omega)
      simp; omega
theorem short_len10 {n : Nat} (h : n < 18446744073709551616) : (short n).length ≤ 10 := short_len 9 n (by omega)
theorem short_pos (n : Nat) : 0 < (short n).length := by
  by_cases hn : n < 128
  · rw [short_lt hn]; simp
  · rw [short_ge hn]; simp
/-- what a short form at the beginning says: the number, how many bytes, and what is wrong -/
def getFrom : Nat → Nat → List Nat → Nat × Nat × Nat
  | _, _, [] => (0, 0, 2)
  | i, n, c :: cs => if i = 9 ∧ 1 < c then (0, 0, 5) else if c < 128 then (if c = 0 ∧ 0 < i then (0, 0, 5) else (n + c % 128 * 128 ^ i, i + 1, 0)) else getFrom (i + 1) (n + c % 128 * 128 ^ i) cs
def getS (bs : List Nat) : Nat × Nat × Nat := getFrom 0 0 bs
theorem getFrom_drop {bs : List Nat} {i n k : Nat} (h : k < bs.length) {c : Nat} (hc : c = bs[k]) : getFrom i n (bs.drop k) = if i = 9 ∧ 1 < c then (0, 0, 5) else if c < 128 then (if c = 0 ∧ 0 < i then (0, 0, 5) else (n + c % 128 * 128 ^ i, i + 1, 0)) else getFrom (i + 1) (n + c % 128 * 128 ^ i) (bs.drop (k + 1)) := by
  rw [List.drop_eq_getElem_cons h, ← hc]; rfl
/-- the bounds of what is read -/
theorem getFrom_ok : ∀ (bs : List Nat) (i n : Nat), i ≤ 9 → n < 128 ^ i → (getFrom i n bs).2.2 = 0 → (getFrom i n bs).1 < 18446744073709551616 ∧ i < (getFrom i n bs).2.1 ∧ (getFrom i n bs).2.1 ≤ i + bs.length ∧ (getFrom i n bs).2.1 ≤ 10
  | [], i, n, _, _, h => by simp [getFrom] at h
  | c :: cs, i, n, hi, hn, h => by
    unfold getFrom at h ⊢
    by_cases h1 : i = 9 ∧ 1 < c
    · rw [if_pos h1] at h; simp at h
    · rw [if_neg h1] at h ⊢
      by_cases h2 : c < 128
      · rw [if_pos h2] at h ⊢
        by_cases h3 : c = 0 ∧ 0 < i
        · rw [if_pos h3] at h; simp at h
        · rw [if_neg h3] at h ⊢
          refine ⟨?_, by simp, by simp <;> omega, by simp <;> omega⟩
          have hc : c % 128 = c := Nat.mod_eq_of_lt h2
          simp only [hc]
          by_cases h9 : i = 9
          · subst h9; have : c ≤ 1 := by omega
            have : (128 : Nat) ^ 9 = 9223372036854775808 := by decide
            have : c * 128 ^ 9 ≤ 1 * 128 ^ 9 := Nat.mul_le_mul_right _ ‹c ≤ 1›
            omega
          · have h8 : 128 ^ i * 128 ≤ 128 ^ 9 := by rw [← Nat.pow_succ]; exact Nat.pow_le_pow_right (by decide) (by omega)
            have : (128 : Nat) ^ 9 = 9223372036854775808 := by decide
            have : c * 128 ^ i ≤ 127 * 128 ^ i := Nat.mul_le_mul_right _ (by omega)
            omega
      · rw [if_neg h2] at h ⊢
        by_cases h9 : i = 9
        · subst h9; exact absurd ⟨rfl, by omega⟩ h1
        · have hm : n + c % 128 * 128 ^ i < 128 ^ (i + 1) := by
            rw [Nat.pow_succ]
            have : c % 128 * 128 ^ i ≤ 127 * 128 ^ i := Nat.mul_le_mul_right _ (by omega)
            omega
          have := getFrom_ok cs (i + 1) _ (by omega) hm h
          simp only [List.length_cons]; omega
/-- a short form is read as its number, whatever stands behind it -/
theorem getFrom_short : ∀ (m : Nat) (i n : Nat) (r : List Nat), i ≤ 9 → n + m * 128 ^ i < 18446744073709551616 → (0 < i → 0 < m) → getFrom i n (short m ++ r) = (n + m * 128 ^ i, i + (short m).length, 0) := by
  intro m
  induction m using Nat.strongRecOn with
  | _ m ih =>
    intro i n r hi hb hp
    by_cases hm : m < 128
    · rw [short_lt hm, List.singleton_append]
      unfold getFrom
      have h1 : ¬ (i = 9 ∧ 1 < m) := by
        rintro ⟨rfl, h⟩
        have : 2 * 128 ^ 9 ≤ m * 128 ^ 9 := Nat.mul_le_mul_right _ h
        have : (128 : Nat) ^ 9 = 9223372036854775808 := by decide
        omega
      have h3 : ¬ (m = 0 ∧ 0 < i) := by rintro ⟨rfl, h⟩; have := hp h; omega
      rw [if_neg h1, if_pos hm, if_neg h3, Nat.mod_eq_of_lt hm]; rfl
    · rw [short_ge hm, List.cons_append]
      unfold getFrom
      have hi9 : i ≠ 9 := by
        rintro rfl
        have : 128 * 128 ^ 9 ≤ m * 128 ^ 9 := Nat.mul_le_mul_right _ (by omega)
        have : (128 : Nat) ^ 9 = 9223372036854775808 := by decide
        omega
      rw [if_neg (by omega), if_neg (by omega)]
      have e1 : (m % 128 + 128) % 128 = m % 128 := by omega
      have e2 : n + m % 128 * 128 ^ i + m / 128 * 128 ^ (i + 1) = n + m * 128 ^ i := by
        have : m * 128 ^ i = (128 * (m / 128) + m % 128) * 128 ^ i := by rw [Nat.div_add_mod]
        rw [this, Nat.pow_succ, Nat.add_mul, Nat.mul_comm (128 ^ i) 128, ← Nat.mul_assoc, Nat.mul_comm 128 (m / 128)]; omega
      rw [e1, ih (m / 128) (by omega) (i + 1) _ r (by omega) (by rw [e2]; exact hb) (by omega), e2]
      simp; omega
theorem getS_short {m : Nat} (h : m < 18446744073709551616) (r : List Nat) : getS (short m ++ r) = (m, (short m).length, 0) := by
  have := getFrom_short m 0 0 r (by decide) (by simpa using h) (by omega)
  simpa [getS] using this
end Go.Proofs.Ytbpfhclcjedkcaa

namespace Go.Proofs.Ytbpfhclcjedkcaa
open Go.RowKit
set_option maxRecDepth 100000 in
set_option maxHeartbeats 800000 in
theorem room_any {a : Option Addr} {c n : Nat} {bs : List Nat} {w : World} (m : Nat) (hn : Hid (bs.length = n)) (hl : n ≤ 549755813888) (hm : m ≤ 549755813888) (hrow : ByteRow w a bs) :
    Calls Try.prog 228 #[.slice a n c, .int .i64 m] w fun e w' => ∃ v, e = .returned v ∧ OwnB w' w.heap.size v bs ∧ Below w.heap.size w w' := by
  obtain ⟨i0, hi, hz0, hz1, hz2⟩ := info_parts infoB
  have hmk := run_makeB w n m (by omega)
  obtain ⟨Z, hZ⟩ : ∃ Z, madeCells #[.int .u8 0] (n + m) = Z := ⟨_, rfl⟩
  have hZs : Z.size = n + m := by rw [← hZ]; exact size_madeCells _ _
  rw [hZ] at hmk
  have HZ := hid hZs
  clear hZ hZs
  have hsz : (Try.prog.info? 5).map (·.size) = some 1 := by rw [hi]; simp [hz1]
  have hB : Below w.heap.size w (w.alloc (.cells Z 5)) := (Below.refl _ _).alloc (Nat.le_refl _) _
  have hpos : 0 < (u8C bs).length → (some ⟨w.heap.size, 0, none⟩ : Option Addr) = some ⟨w.heap.size, 0, none⟩ ∧ ∃ ad, a = some ad ∧ ∀ j v, (u8C bs)[j]? = some v → (w.alloc (.cells Z 5)).cell? (ad.add j) = some v := by
    intro h
    rcases hrow.alloc (.cells Z 5) with rfl | ⟨b, off, rfl, hlt, hc⟩
    · simp [u8C] at h
    · exact ⟨rfl, _, rfl, ByteRow.cells hc⟩
  have HPOS := hid hpos
  have HSZ := hid hsz
  clear hpos hsz
  go_enter Try.func228, Try.ntmps228
  go_wp2_with (with_reducible refine wpList_copy_splice rfl (.tmp 13) (.tmp 14) 42 42 rfl 5 Try.underlying42 HSZ.out (some ⟨w.heap.size, 0, none⟩) a n (n + m) n c rfl rfl w.heap.size 0 Z.toList 5 (by rw [Array.toArray_toList]; exact heap_alloc_new w _) (u8C bs) (by rw [u8C_len, hn.out]; simp) HPOS.out (by rw [u8C_len, hn.out]; have := HZ.out; simp; omega) (u8C_one bs) w.heap.size w hB (Nat.le_refl _) ?_; intro w4 hg4 hb4)
  go_ret
  refine ⟨_, rfl, ?_, hb4⟩
  unfold OwnB
  rw [hn.out]
  have h1 := hg4.out
  have hlen : (u8C bs).length = n := by rw [u8C_len, hn.out]
  have hZt : Z.toList.length = n + m := by have := HZ.out; simpa using this
  refine ⟨by rw [hlen]; omega, .inr ⟨w.heap.size, n + m, (splice Z.toList 0 (u8C bs)).toArray, rfl, Nat.le_refl _, h1, by omega, by unfold maxLen; omega, ?_, ?_⟩⟩
  · simp [length_splice Z.toList 0 (u8C bs) (by omega), hZt]
  · simp [splice, hlen]
theorem or128 (n : Nat) : bits .or .u8 ((n : Int) % 256) 128 = ((n % 128 + 128 : Nat) : Int) := by
  have := u8_or_nat (n % 256) 128 (by omega) (by decide)
  rw [show ((128 : Nat) : Int) = 128 from rfl, show ((n % 256 : Nat) : Int) = (n : Int) % 256 by omega] at this
  rw [this]
  congr 1
  have h2 := Nat.two_pow_add_eq_or_of_lt (i := 7) (b := n % 128) (by omega) 1
  have h3 : n % 256 ||| 128 = n % 128 ||| 128 := by
    apply Nat.eq_of_testBit_eq
    intro j
    rw [Nat.testBit_or, Nat.testBit_or, show (256 : Nat) = 2 ^ 8 from rfl, show n % 128 = n % 2 ^ 7 from rfl, Nat.testBit_mod_two_pow, Nat.testBit_mod_two_pow]
    have e : (128 : Nat).testBit j = decide (j = 7) := by
      rw [show (128 : Nat) = 2 ^ 7 from rfl, Nat.testBit_two_pow]
      rw [Bool.eq_iff_iff]; simp; omega
    rw [e]
    by_cases h : j = 7
    · simp [h]
    · have : (j < 8 ↔ j < 7) := by omega
      simp [h, this]
  rw [h3, Nat.or_comm]
  simpa [Nat.add_comm] using h2.symm
set_option maxRecDepth 100000 in
set_option maxHeartbeats 1600000 in
theorem putShort_any {a : Option Addr} {c n : Nat} {bs : List Nat} {w : World} (m : Nat) (hn : Hid (bs.length = n)) (hl : n ≤ 274877906944) (hm : m < 18446744073709551616) (hrow : ByteRow w a bs) :
    Calls Try.prog 181 #[.slice a n c, .int .u64 m] w fun e w' => ∃ v, e = .returned v ∧ OwnB w' w.heap.size v (bs ++ short m) ∧ Below w.heap.size w w' := by
  have hl10 := short_len10 hm
  obtain ⟨F, hF⟩ : ∃ F, bs ++ short m = F := ⟨_, rfl⟩
  have hFl : F.length ≤ n + 10 := by rw [← hF, List.length_append, hn.out]; omega
  rw [hF]
  have HF := hid hF
  clear hF
  go_enter Try.func181, Try.ntmps181
  go_wp2_with (go_at_call 228; refine (room_any 10 hn (by omega) (by decide) hrow).mono ?_; rintro e w1 ⟨v1, rfl, hown1, hb1⟩)
  go_loopw [1, 5] (fun i v wr => ∃ (k : Nat) (got : List Nat), k < 18446744073709551616 ∧ i = .int .u64 k ∧ Hid (F = got ++ short k) ∧ OwnB wr w.heap.size v got ∧ Below w.heap.size w wr) (fun i _ _ => (intOf i).toNat)
  case atStart => exact ⟨m, bs, hm, rfl, HF.out.symm, hown1, hb1⟩
  case round =>
    obtain ⟨k, got, hk, rfl, hM, hown, hb⟩ := hrel
    have hgl : got.length ≤ n + 10 := by have := congrArg List.length hM.out; rw [List.length_append] at this; omega
    have hsz := hb.size
    by_cases hge : 128 ≤ k
    · have hge' : decide (128 ≤ k) = true := by simpa using hge
      obtain ⟨x, hx⟩ : ∃ x, k % 128 + 128 = x := ⟨_, rfl⟩
      have e2 : bits .or .u8 ((k : Int) % 256) 128 = ((x : Nat) : Int) := by rw [← hx]; exact or128 k
      have hM2 : Hid (F = (got ++ [x]) ++ short (k / 128)) := hid (by rw [hM.out, short_ge (by omega), hx]; simp)
      clear hx
      go_wp2_with (at_builtin; refine wpList_appendB (hown.alloc _) (ByteRow.one _ x) (hid rfl) (by simp; omega) (by simp; omega) rfl rfl rfl rfl ?_; intro v2 w2 hown2 hg2 hat2)
      have hB2 : Below w.heap.size w w2 := below_of_grown (hb.alloc hsz _) hg2 (hown.alloc _) (by simp; omega) (Nat.le_refl _)
      go_roundw
      case rel => exact ⟨k / 128, got ++ [x], by omega, by go_num, hM2, hown2, hB2⟩
      case measure => simp [intOf]; omega
    · have hge' : decide (128 ≤ k) = false := by simpa using hge
      have hM2 : Hid (F = got ++ [k]) := hid (by rw [hM.out, short_lt (by omega)])
      have e3 : (k : Int) % 256 = k := by omega
      go_wp2_with (at_builtin; refine wpList_appendB (hown.alloc _) (ByteRow.one _ k) (hid rfl) (by simp; omega) (by simp; omega) rfl rfl rfl rfl ?_; intro v2 w2 hown2 hg2 hat2)
      have hB2 : Below w.heap.size w w2 := below_of_grown (hb.alloc hsz _) hg2 (hown.alloc _) (by simp; omega) (Nat.le_refl _)
      go_ret
      exact ⟨_, rfl, by rw [hM2.out]; exact hown2, hB2⟩
set_option maxRecDepth 100000 in
set_option maxHeartbeats 1600000 in
theorem shortR_any {w : World} (m : Nat) (hm : m < 18446744073709551616) :
    Calls Try.prog 187 #[.int .u64 m] w fun e w' => ∃ v, e = .returned v ∧ OwnB w' w.heap.size v (short m) ∧ Below w.heap.size w w' := by
  have hl10 := short_len10 hm
  obtain ⟨F, hF⟩ : ∃ F, short m = F := ⟨_, rfl⟩
  rw [hF] at hl10 ⊢
  have HF := hid hF
  clear hF
  go_enter Try.func187, Try.ntmps187
  go_wp2
  go_loopw [0, 3] (fun i v wr => ∃ (k : Nat) (got : List Nat), k < 18446744073709551616 ∧ i = .int .u64 k ∧ Hid (F = got ++ short k) ∧ OwnB wr w.heap.size v got ∧ Below w.heap.size w wr) (fun i _ _ => (intOf i).toNat)
  case atStart => exact ⟨m, [], hm, rfl, by show F = [] ++ short m; exact HF.out.symm, OwnB.nil _ _, Below.refl _ _⟩
  case round =>
    obtain ⟨k, got, hk, rfl, hM, hown, hb⟩ := hrel
    have hgl : got.length ≤ 10 := by have := congrArg List.length hM.out; rw [List.length_append] at this; omega
    have hsz := hb.size
    by_cases hge : 128 ≤ k
    · have hge' : decide (128 ≤ k) = true := by simpa using hge
      obtain ⟨x, hx⟩ : ∃ x, k % 128 + 128 = x := ⟨_, rfl⟩
      have e2 : ((k : Int) % 128) % 256 = (k : Int) % 128 := by omega
      have e4 : (k : Int) % 128 + 128 = ((x : Nat) : Int) := by omega
      have e5 : (x : Int) % 256 = (x : Int) := by omega
      have hM2 : Hid (F = (got ++ [x]) ++ short (k / 128)) := hid (by rw [hM.out, short_ge (by omega), hx]; simp)
      clear hx
      go_wp2_with (at_builtin; refine wpList_appendB (hown.alloc _) (ByteRow.one _ x) (hid rfl) (by simp; omega) (by simp; omega) rfl rfl rfl rfl ?_; intro v2 w2 hown2 hg2 hat2)
      have hB2 : Below w.heap.size w w2 := below_of_grown (hb.alloc hsz _) hg2 (hown.alloc _) (by simp; omega) (Nat.le_refl _)
      go_roundw
      case rel => exact ⟨k / 128, got ++ [x], by omega, by go_num, hM2, hown2, hB2⟩
      case measure => simp [intOf]; omega
    · have hge' : decide (128 ≤ k) = false := by simpa using hge
      have hM2 : Hid (F = got ++ [k]) := hid (by rw [hM.out, short_lt (by omega)])
      have e3 : (k : Int) % 256 = k := by omega
      go_wp2_with (at_builtin; refine wpList_appendB (hown.alloc _) (ByteRow.one _ k) (hid rfl) (by simp; omega) (by simp; omega) rfl rfl rfl rfl ?_; intro v2 w2 hown2 hg2 hat2)
      have hB2 : Below w.heap.size w w2 := below_of_grown (hb.alloc hsz _) hg2 (hown.alloc _) (by simp; omega) (Nat.le_refl _)
      go_ret
      exact ⟨_, rfl, by rw [hM2.out]; exact hown2, hB2⟩
end Go.Proofs.Ytbpfhclcjedkcaa

namespace Go.Proofs.Ytbpfhclcjedkcaa
open Go.RowKit
/-- three numbers as a call hands them back -/
def triV (q : Nat × Nat × Nat) : Value := .tuple #[.int .u64 q.1, .int .i64 q.2.1, .int .i64 q.2.2]
theorem pow128_9 {i : Nat} (h : i ≤ 9) : 128 ^ i ≤ 9223372036854775808 := by
  have : (128 : Nat) ^ i ≤ 128 ^ 9 := Nat.pow_le_pow_right (by decide) h
  have e : (128 : Nat) ^ 9 = 9223372036854775808 := by decide
  omega
/-- one more part of a number -/
theorem part_bound {i n c : Nat} (hi : i ≤ 9) (hn : n < 128 ^ i) (hc : i = 9 → c ≤ 1) : n + c % 128 * 128 ^ i < 18446744073709551616 ∧ c % 128 * 128 ^ i < 18446744073709551616 := by
  by_cases h9 : i = 9
  · subst h9
    have := hc rfl
    have e : (128 : Nat) ^ 9 = 9223372036854775808 := by decide
    have : c % 128 * 128 ^ 9 ≤ 1 * 128 ^ 9 := Nat.mul_le_mul_right _ (by omega)
    omega
  · have h8 : 128 ^ (i + 1) ≤ 9223372036854775808 := pow128_9 (by omega)
    rw [Nat.pow_succ] at h8
    have : c % 128 * 128 ^ i ≤ 127 * 128 ^ i := Nat.mul_le_mul_right _ (by omega)
    omega
theorem part_next {i n c : Nat} (hn : n < 128 ^ i) : n + c % 128 * 128 ^ i < 128 ^ (i + 1) := by
  rw [Nat.pow_succ]
  have : c % 128 * 128 ^ i ≤ 127 * 128 ^ i := Nat.mul_le_mul_right _ (by omega)
  omega
theorem or_part {i n c : Nat} (hn : n < 128 ^ i) : n ||| c % 128 * 128 ^ i = n + c % 128 * 128 ^ i := by
  have e : (128 : Nat) ^ i = 2 ^ (7 * i) := by rw [Nat.pow_mul]
  rw [e] at hn ⊢
  have := Nat.two_pow_add_eq_or_of_lt hn (c % 128)
  rw [Nat.or_comm, Nat.mul_comm (c % 128), ← this, Nat.add_comm]
theorem step_val {m x k : Nat} (hm : m < 128 ^ k) (hk : k ≤ 9) (hx : x < 256) (hc : k = 9 → x ≤ 1) :
    bits .or .u64 (m : Int) (IntKind.u64.wrap (IntKind.u64.wrap (bits .and .u8 (x : Int) 127) * 2 ^ (7 * k))) = ((m + x % 128 * 128 ^ k : Nat) : Int) := by
  have h1 := u8_and_nat x 127 hx (by decide)
  rw [show ((127 : Nat) : Int) = 127 from rfl] at h1
  have h2 : x &&& 127 = x % 128 := Nat.and_two_pow_sub_one_eq_mod x 7
  obtain ⟨b1, b2⟩ := part_bound hk hm hc
  have e : ((2 : Int) ^ (7 * k)) = ((128 ^ k : Nat) : Int) := by
    have h : (128 : Nat) ^ k = 2 ^ (7 * k) := by rw [Nat.pow_mul]
    rw [h]; simp
  have w1 : IntKind.u64.wrap ((x % 128 : Nat) : Int) = ((x % 128 : Nat) : Int) := by rw [IntKind.wrap_u64]; omega
  have w2 : IntKind.u64.wrap (((x % 128 * 128 ^ k : Nat)) : Int) = ((x % 128 * 128 ^ k : Nat) : Int) := by rw [IntKind.wrap_u64]; omega
  rw [h1, h2, w1, e, ← Int.natCast_mul, w2]
  have h3 := u64_or_nat m (x % 128 * 128 ^ k) (by have := pow128_9 hk; omega) b2
  rw [h3, or_part hm]
theorem triV_ret {q : Nat × Nat × Nat} {x y z : Int} (h : Hid (q = (x.toNat, y.toNat, z.toNat))) (hx : 0 ≤ x) (hy : 0 ≤ y) (hz : 0 ≤ z) : Ending.returned (triV q) = .returned (.tuple #[.int .u64 x, .int .i64 y, .int .i64 z]) := by
  rw [h.out]
  unfold triV
  simp only [show ((x.toNat : Nat) : Int) = x by omega, show ((y.toNat : Nat) : Int) = y by omega, show ((z.toNat : Nat) : Int) = z by omega]
set_option maxRecDepth 100000 in
set_option maxHeartbeats 1600000 in
theorem getShort_any {a : Option Addr} {c n : Nat} {bs : List Nat} {w : World} (hn : Hid (bs.length = n)) (hl : n ≤ 70368744177664) (hby : ∀ b ∈ bs, b < 256) (hrow : ByteRow w a bs) :
    Calls Try.prog 230 #[.slice a n c] w fun e w' => e = .returned (triV (getS bs)) ∧ w = w' := by
  obtain ⟨G, hG⟩ : ∃ G, getS bs = G := ⟨_, rfl⟩
  rw [hG]
  have HG : Hid (G = getFrom 0 0 bs) := hid hG.symm
  have HBY := hid hby
  clear hG hby
  go_enter Try.func230, Try.ntmps230
  go_wp2
  go_loop [2, 9] (fun v i => ∃ k m : Nat, k ≤ n ∧ k ≤ 9 ∧ m < 128 ^ k ∧ v = .int .u64 m ∧ i = .int .i64 k ∧ Hid (G = getFrom k m (bs.drop k))) (fun _ i => n - (intOf i).toNat)
  case atStart => exact ⟨0, 0, by omega, by omega, by decide, rfl, rfl, HG⟩
  case round =>
    obtain ⟨k, m, hk, hk9, hm, rfl, rfl, hM⟩ := hrel
    by_cases hlt : k < n
    · have hlt' : decide (k < n) = true := by simpa using hlt
      have hkb : k < bs.length := by rw [hn.out]; exact hlt
      obtain ⟨pb, po, x, rfl, hx, d1⟩ := hrow.at (Below.refl _ _) rfl hkb
      have hx256 : x < 256 := HBY.out x (by rw [hx]; exact List.getElem_mem _)
      have HGD := hid (getFrom_drop (i := k) (n := m) hkb hx)
      have HM := hid hm
      clear hx hm
      by_cases hA : k = 9 ∧ 1 < x
      · have HE : Hid (G = (0, 0, 5)) := hid (by rw [hM.out, HGD.out, if_pos hA])
        obtain ⟨h9, h1x⟩ := hA
        subst h9
        have t4 : decide (1 < x) = true := by simpa using h1x
        go_wp2
        exact bodyPost_ret (v := .tuple #[.int .u64 0, .int .i64 0, .int .i64 5]) (by simp [results, Try.results230, go_sem]) rfl ⟨(triV_ret (x := 0) (y := 0) (z := 5) HE (by decide) (by decide) (by decide)).symm, rfl⟩
      · by_cases h9 : k = 9
        · obtain rfl : k = 9 := h9
          have hx1 : x ≤ 1 := by
            by_cases h1 : 1 < x
            · exact absurd ⟨rfl, h1⟩ hA
            · omega
          have hsv := step_val (x := x) HM.out (by decide) hx256 (fun _ => hx1)
          have HSV := hid hsv
          have HA := hid hA
          clear hsv hA
          rcases (show x = 0 ∨ x = 1 by omega) with rfl | rfl
          · have HE : Hid (G = (0, 0, 5)) := hid (by rw [hM.out, HGD.out, if_neg HA.out, if_pos (by decide), if_pos (by decide)])
            go_wp2
            exact bodyPost_ret (v := .tuple #[.int .u64 0, .int .i64 0, .int .i64 5]) (by simp [results, Try.results230, go_sem]) rfl ⟨(triV_ret (x := 0) (y := 0) (z := 5) HE (by decide) (by decide) (by decide)).symm, rfl⟩
          · obtain ⟨N, hN⟩ : ∃ N, m + 1 % 128 * 128 ^ 9 = N := ⟨_, rfl⟩
            have HE : Hid (G = (N, 10, 0)) := hid (by rw [hM.out, HGD.out, if_neg HA.out, if_pos (by decide), if_neg (by decide), hN])
            rw [hN] at HSV
            clear hN
            go_wp2
            exact bodyPost_ret (v := .tuple #[.int .u64 ((N : Nat) : Int), .int .i64 (10), .int .i64 0]) (by simp [results, Try.results230, go_sem]; first | done | exact HSV.out | (have h := HSV.out; simpa using h)) rfl ⟨(triV_ret (x := ((N : Nat) : Int)) (y := 10) (z := 0) (hid (by rw [HE.out]; simp <;> omega)) (by omega) (by omega) (by decide)).symm, rfl⟩
        · have hsv := step_val (x := x) HM.out hk9 hx256 (fun h => absurd h h9)
          have HSV := hid hsv
          have HA := hid hA
          have hn9 := HM.out
          have H9 := hid h9
          have t1 : decide (k = 9) = false := by simpa using h9
          have t2 : decide ((k : Int) = 9) = false := by simp; omega
          have t3 : ((k : Int) == 9) = false := by simp; omega
          have hnx := part_next (c := x) HM.out
          have HNX := hid hnx
          obtain ⟨N, hN⟩ : ∃ N, m + x % 128 * 128 ^ k = N := ⟨_, rfl⟩
          rw [hN] at HSV HNX HGD
          clear hsv hA hn9 hnx hN h9
          by_cases hB : x < 128
          · have t4 : decide (x < 128) = true := by simpa using hB
            by_cases hx0 : x = 0
            · subst hx0
              by_cases hk0 : 0 < k
              · have t5 : decide (0 < k) = true := by simpa using hk0
                have HE : Hid (G = (0, 0, 5)) := hid (by rw [hM.out, HGD.out, if_neg HA.out, if_pos hB, if_pos ⟨rfl, hk0⟩])
                go_wp2
                exact bodyPost_ret (v := .tuple #[.int .u64 0, .int .i64 0, .int .i64 5]) (by simp [results, Try.results230, go_sem]) rfl ⟨(triV_ret (x := 0) (y := 0) (z := 5) HE (by decide) (by decide) (by decide)).symm, rfl⟩
              · have t5 : decide (0 < k) = false := by simpa using hk0
                have HE : Hid (G = (N, k + 1, 0)) := hid (by rw [hM.out, HGD.out, if_neg HA.out, if_pos hB, if_neg (fun h => hk0 h.2)])
                have h6 := HSV.out
                go_wp2
                exact bodyPost_ret (v := .tuple #[.int .u64 ((N : Nat) : Int), .int .i64 ((k : Int) + 1), .int .i64 0]) (by simp [results, Try.results230, go_sem]; first | done | exact HSV.out | (have h := HSV.out; simpa using h)) rfl ⟨(triV_ret (x := ((N : Nat) : Int)) (y := (k : Int) + 1) (z := 0) (hid (by rw [HE.out]; simp <;> omega)) (by omega) (by omega) (by decide)).symm, rfl⟩
            · have t6 : decide (x = 0) = false := by simpa using hx0
              have t7 : decide ((x : Int) = 0) = false := by simp; omega
              have t8 : ((x : Int) == 0) = false := by simp; omega
              have HE : Hid (G = (N, k + 1, 0)) := hid (by rw [hM.out, HGD.out, if_neg HA.out, if_pos hB, if_neg (fun h => hx0 h.1)])
              have h6 := HSV.out
              go_wp2
              exact bodyPost_ret (v := .tuple #[.int .u64 ((N : Nat) : Int), .int .i64 ((k : Int) + 1), .int .i64 0]) (by simp [results, Try.results230, go_sem]; first | done | exact HSV.out | (have h := HSV.out; simpa using h)) rfl ⟨(triV_ret (x := ((N : Nat) : Int)) (y := (k : Int) + 1) (z := 0) (hid (by rw [HE.out]; simp <;> omega)) (by omega) (by omega) (by decide)).symm, rfl⟩
          · have t4 : decide (x < 128) = false := by simpa using hB
            have hM2 : Hid (G = getFrom (k + 1) N (bs.drop (k + 1))) := hid (by rw [hM.out, HGD.out, if_neg HA.out, if_neg hB])
            have h6 := HSV.out
            go_wp2
            go_round
            case rel => exact ⟨k + 1, N, by omega, by have := H9.out; omega, HNX.out, rfl, by go_num, hM2⟩
            case measure => simp [intOf]; omega
    · have HE : Hid (G = (0, 0, 2)) := hid (by rw [hM.out, List.drop_eq_nil_of_le (by rw [hn.out]; omega)]; rfl)
      have hlt' : decide (k < n) = false := by simpa using hlt
      go_wp2
      exact bodyPost_ret (v := .tuple #[.int .u64 0, .int .i64 0, .int .i64 2]) (by simp [results, Try.results230, go_sem]) rfl ⟨(triV_ret (x := 0) (y := 0) (z := 2) HE (by decide) (by decide) (by decide)).symm, rfl⟩
end Go.Proofs.Ytbpfhclcjedkcaa

namespace Go.Proofs.Ytbpfhclcjedkcaa
open Go.RowKit
/-! ### a process's form in plain words -/
def pidF (p : Pid) : List Nat := short p.1.toNat ++ short p.2.toNat
def getP (b : List Nat) : Pid × Nat × Nat :=
  if (getS b).2.2 ≠ 0 then ((0, 0), 0, (getS b).2.2)
  else if (getS (b.drop (getS b).2.1)).2.2 ≠ 0 then ((0, 0), 0, (getS (b.drop (getS b).2.1)).2.2)
  else if 65535 < (getS b).1 ∨ 4294967295 < (getS (b.drop (getS b).2.1)).1 then ((0, 0), 0, 5)
  else ((((getS b).1 : Nat), ((getS (b.drop (getS b).2.1)).1 : Nat)), (getS b).2.1 + (getS (b.drop (getS b).2.1)).2.1, 0)
def okP (p : Pid) : Prop := 0 ≤ p.1 ∧ p.1 < 65536 ∧ 0 ≤ p.2 ∧ p.2 < 4294967296
theorem getP_back {p : Pid} (h : okP p) (r : List Nat) : getP (pidF p ++ r) = (p, (pidF p).length, 0) := by
  obtain ⟨h1, h2, h3, h4⟩ := h
  have e1 : getS (pidF p ++ r) = (p.1.toNat, (short p.1.toNat).length, 0) := by
    unfold pidF; rw [List.append_assoc]; exact getS_short (by omega) _
  have e2 : (pidF p ++ r).drop (short p.1.toNat).length = short p.2.toNat ++ r := by unfold pidF; rw [List.append_assoc, List.drop_left]
  have e3 : getS (short p.2.toNat ++ r) = (p.2.toNat, (short p.2.toNat).length, 0) := getS_short (by omega) _
  unfold getP
  simp only [e1, e2, e3]
  rw [if_neg (by simp), if_neg (by simp), if_neg (by omega)]
  have q1 : ((p.1.toNat : Nat) : Int) = p.1 := by omega
  have q2 : ((p.2.toNat : Nat) : Int) = p.2 := by omega
  rw [q1, q2]
  simp [pidF]
end Go.Proofs.Ytbpfhclcjedkcaa

namespace Go.Proofs.Ytbpfhclcjedkcaa
open Go.RowKit
set_option maxRecDepth 100000 in
set_option maxHeartbeats 1600000 in
theorem getShortR_any {a : Option Addr} {c n : Nat} {bs : List Nat} {w : World} (hn : Hid (bs.length = n)) (hl : n ≤ 70368744177664) (hby : ∀ b ∈ bs, b < 256) (hrow : ByteRow w a bs) :
    Calls Try.prog 196 #[.slice a n c] w fun e w' => e = .returned (triV (getS bs)) ∧ w = w' := by
  obtain ⟨G, hG⟩ : ∃ G, getS bs = G := ⟨_, rfl⟩
  rw [hG]
  have HG : Hid (G = getFrom 0 0 bs) := hid hG.symm
  have HBY := hid hby
  clear hG hby
  go_enter Try.func196, Try.ntmps196
  go_wp2
  go_loop [5, 6, 7] (fun v u i => ∃ k m P : Nat, k ≤ n ∧ k ≤ 9 ∧ m < P ∧ Hid (P = 128 ^ k) ∧ v = .int .u64 m ∧ u = .int .u64 P ∧ i = .int .i64 k ∧ Hid (G = getFrom k m (bs.drop k))) (fun _ _ i => n - (intOf i).toNat)
  case atStart => exact ⟨0, 0, 1, by omega, by omega, by omega, rfl, rfl, rfl, rfl, HG⟩
  case round =>
    obtain ⟨k, m, P, hk, hk9, hm, hP, rfl, rfl, rfl, hM⟩ := hrel
    by_cases hlt : k < n
    · have hlt' : decide (k < n) = true := by simpa using hlt
      have hlt2 : decide ((k : Int) < 10) = true := by simp; omega
      have hlt3 : decide (k < 10) = true := by simp; omega
      have hkb : k < bs.length := by rw [hn.out]; exact hlt
      obtain ⟨pb, po, x, rfl, hx, d1⟩ := hrow.at (Below.refl _ _) rfl hkb
      have hx256 : x < 256 := HBY.out x (by rw [hx]; exact List.getElem_mem _)
      have HGD := hid (getFrom_drop (i := k) (n := m) hkb hx)
      have HM := hid hm
      have hP9 : P ≤ 9223372036854775808 := by rw [hP.out]; exact pow128_9 hk9
      clear hx
      by_cases hA : k = 9 ∧ 1 < x
      · have HE : Hid (G = (0, 0, 5)) := hid (by rw [hM.out, HGD.out, if_pos hA])
        obtain ⟨h9, h1x⟩ := hA
        subst h9
        have t4 : decide (1 < x) = true := by simpa using h1x
        go_wp2
        exact bodyPost_ret (v := .tuple #[.int .u64 0, .int .i64 0, .int .i64 5]) (by simp [results, Try.results196, go_sem]) rfl ⟨(triV_ret (x := 0) (y := 0) (z := 5) HE (by decide) (by decide) (by decide)).symm, rfl⟩
      · have hx1 : k = 9 → x ≤ 1 := fun h => by
          by_cases h1 : 1 < x
          · exact absurd ⟨h, h1⟩ hA
          · omega
        have hb2 := part_bound (c := x) hk9 (by rw [← hP.out]; exact hm) hx1
        have hnx := part_next (c := x) (i := k) (n := m) (by rw [← hP.out]; exact hm)
        rw [← hP.out] at hb2
        rw [← hP.out] at hnx HGD
        obtain ⟨Y, hY⟩ : ∃ Y, x % 128 * P = Y := ⟨_, rfl⟩
        rw [hY] at hb2 hnx HGD
        obtain ⟨hb1, hb2⟩ := hb2
        have eY : ((x : Int) % 128) * (P : Int) = ((Y : Nat) : Int) := by rw [← hY]; simp
        have HA := hid hA
        have HNX := hid hnx
        clear hY hA hnx
        by_cases h9 : k = 9
        · obtain rfl : k = 9 := h9
          have hx1' := hx1 rfl
          clear hx1
          rcases (show x = 0 ∨ x = 1 by omega) with rfl | rfl
          · have HE : Hid (G = (0, 0, 5)) := hid (by rw [hM.out, HGD.out, if_neg HA.out, if_pos (by decide), if_pos (by decide)])
            go_wp2
            exact bodyPost_ret (v := .tuple #[.int .u64 0, .int .i64 0, .int .i64 5]) (by simp [results, Try.results196, go_sem]) rfl ⟨(triV_ret (x := 0) (y := 0) (z := 5) HE (by decide) (by decide) (by decide)).symm, rfl⟩
          · have HE : Hid (G = (m + Y, 10, 0)) := hid (by rw [hM.out, HGD.out, if_neg HA.out, if_pos (by decide), if_neg (by decide)])
            have eY' : (P : Int) = (Y : Int) := by simpa using eY
            obtain rfl : P = Y := by omega
            clear eY eY'
            go_wp2
            exact bodyPost_ret (v := .tuple #[.int .u64 ((m : Int) + (P : Int)), .int .i64 (10), .int .i64 0]) (by simp [results, Try.results196, go_sem]) rfl ⟨(triV_ret (x := (m : Int) + (P : Int)) (y := 10) (z := 0) (hid (by rw [HE.out]; simp <;> omega)) (by omega) (by omega) (by decide)).symm, rfl⟩
        · have H9 := hid h9
          have t1 : decide (k = 9) = false := by simpa using h9
          have t2 : decide ((k : Int) = 9) = false := by simp; omega
          have t3 : ((k : Int) == 9) = false := by simp; omega
          clear h9
          have hP8 : P ≤ 72057594037927936 := by
            have h1 : (128 : Nat) ^ k ≤ 128 ^ 8 := Nat.pow_le_pow_right (by decide) (by have := H9.out; omega)
            have e : (128 : Nat) ^ 8 = 72057594037927936 := by decide
            rw [hP.out]; omega
          clear hx1
          by_cases hB : x < 128
          · have t4 : decide (x < 128) = true := by simpa using hB
            by_cases hx0 : x = 0
            · subst hx0
              have eY0 : Y = 0 := by simp at eY; omega
              subst eY0
              clear eY
              by_cases hk0 : 0 < k
              · have t5 : decide (0 < k) = true := by simpa using hk0
                have HE : Hid (G = (0, 0, 5)) := hid (by rw [hM.out, HGD.out, if_neg HA.out, if_pos hB, if_pos ⟨rfl, hk0⟩])
                go_wp2
                exact bodyPost_ret (v := .tuple #[.int .u64 0, .int .i64 0, .int .i64 5]) (by simp [results, Try.results196, go_sem]) rfl ⟨(triV_ret (x := 0) (y := 0) (z := 5) HE (by decide) (by decide) (by decide)).symm, rfl⟩
              · have t5 : decide (0 < k) = false := by simpa using hk0
                have HE : Hid (G = (m + 0, k + 1, 0)) := hid (by rw [hM.out, HGD.out, if_neg HA.out, if_pos hB, if_neg (fun h => hk0 h.2)])
                go_wp2
                exact bodyPost_ret (v := .tuple #[.int .u64 ((m : Int)), .int .i64 ((k : Int) + 1), .int .i64 0]) (by simp [results, Try.results196, go_sem]) rfl ⟨(triV_ret (x := (m : Int)) (y := (k : Int) + 1) (z := 0) (hid (by rw [HE.out]; simp <;> omega)) (by omega) (by omega) (by decide)).symm, rfl⟩
            · have t6 : decide (x = 0) = false := by simpa using hx0
              have t7 : decide ((x : Int) = 0) = false := by simp; omega
              have t8 : ((x : Int) == 0) = false := by simp; omega
              have HE : Hid (G = (m + Y, k + 1, 0)) := hid (by rw [hM.out, HGD.out, if_neg HA.out, if_pos hB, if_neg (fun h => hx0 h.1)])
              go_wp2
              exact bodyPost_ret (v := .tuple #[.int .u64 ((m : Int) + (Y : Int)), .int .i64 ((k : Int) + 1), .int .i64 0]) (by simp [results, Try.results196, go_sem]) rfl ⟨(triV_ret (x := (m : Int) + (Y : Int)) (y := (k : Int) + 1) (z := 0) (hid (by rw [HE.out]; simp <;> omega)) (by omega) (by omega) (by decide)).symm, rfl⟩
          · have t4 : decide (x < 128) = false := by simpa using hB
            have hM2 : Hid (G = getFrom (k + 1) (m + Y) (bs.drop (k + 1))) := hid (by rw [hM.out, HGD.out, if_neg HA.out, if_neg hB])
            go_wp2
            go_round
            case rel => exact ⟨k + 1, m + Y, P * 128, by omega, by have := H9.out; omega, by rw [hP.out, ← Nat.pow_succ]; exact HNX.out, hid (by rw [hP.out, Nat.pow_succ]), by go_num, by go_num, by go_num, hM2⟩
            case measure => simp [intOf]; omega
    · have HE : Hid (G = (0, 0, 2)) := hid (by rw [hM.out, List.drop_eq_nil_of_le (by rw [hn.out]; omega)]; rfl)
      have hlt' : decide (k < n) = false := by simpa using hlt
      go_wp2
      exact bodyPost_ret (v := .tuple #[.int .u64 0, .int .i64 0, .int .i64 2]) (by simp [results, Try.results196, go_sem]) rfl ⟨(triV_ret (x := 0) (y := 0) (z := 2) HE (by decide) (by decide) (by decide)).symm, rfl⟩
end Go.Proofs.Ytbpfhclcjedkcaa

