/- Parts of the proof: X20 X1 X2 X5a X7 X8 X17 X5 X6 X21. -/
import Derived.Laws.MakeOwn
import Derived.Laws.CopyOwn
import Derived.Maps.AppendAt
import Derived.Laws.BitsAllLaws
import Derived.Deep.RegionWith
import Derived.Lib.Bytes
import Derived.Test.YtbpfhclcjedkcaaGMsgEncodes0
namespace Go.Proofs.Ytbpfhclcjedkcaa
open Go.RowKit

def sameB (A B : View) : Bool := decide (A.id = B.id) && (decide (A.ms = B.ms) && (decide (A.ls = B.ls) && decide (A.ds = B.ds)))
theorem equalFunc_is {a b : Option Addr} {ca cb : Nat} {xs ys : List (List Pid)} {w : World} {bm : Bool} (h : Hid (decide (xs = ys) = bm)) (hn : xs.length ≤ 70368744177664) (hm : ys.length ≤ 70368744177664) (hx : LeafRow w a xs) (hy : LeafRow w b ys)
    (hln : ∀ l ∈ xs, l.length ≤ 70368744177664) (hlm : ∀ l ∈ ys, l.length ≤ 70368744177664) :
   Calls Try.prog 205 #[.slice a xs.length ca, .slice b ys.length cb, .func (.func 88) #[] #[]] w fun e w' => e = .returned (.bool bm) ∧ Below w.heap.size w w' := by
  have := equalFunc_any a b ca cb xs ys w hn hm hx hy hln hlm
  rw [h.out] at this
  exact this

section
variable (A B : View) (am al ad bm bl bd : Option Addr) (cm cl cd em el ed : Nat) (w : World)
set_option maxRecDepth 100000 in
set_option maxHeartbeats 3200000 in
theorem viewSame_any (hA : ViewR w am al ad A) (hB : ViewR w bm bl bd B) :
   Calls Try.prog 140 #[.agg #[.int .u64 A.id, .slice am A.ms.length cm, .slice al A.ls.length cl, .slice ad A.ds.length cd], .agg #[.int .u64 B.id, .slice bm B.ms.length em, .slice bl B.ls.length el, .slice bd B.ds.length ed]] w fun e w' => e = .returned (.bool (sameB A B)) ∧ Below w.heap.size w w' := by
  have hB2 : Below w.heap.size w ((w.alloc (.cells #[.int .u64 A.id, .slice am A.ms.length cm, .slice al A.ls.length cl, .slice ad A.ds.length cd] 33)).alloc (.cells #[.int .u64 B.id, .slice bm B.ms.length em, .slice bl B.ls.length el, .slice bd B.ds.length ed] 33)) := ((Below.refl _ _).alloc (Nat.le_refl _) _).alloc (by simp) _
  have hA2 := hA.ext hB2
  have hBb := hB.ext hB2
  have xA : ViewBox ((w.alloc (.cells #[.int .u64 A.id, .slice am A.ms.length cm, .slice al A.ls.length cl, .slice ad A.ds.length cd] 33)).alloc (.cells #[.int .u64 B.id, .slice bm B.ms.length em, .slice bl B.ls.length el, .slice bd B.ds.length ed] 33)) w.heap.size A am al ad cm cl cd := (ViewBox.made (V := A) w).ext ((Below.refl _ _).alloc (Nat.le_refl _) _) (by simp)
  have xB : ViewBox ((w.alloc (.cells #[.int .u64 A.id, .slice am A.ms.length cm, .slice al A.ls.length cl, .slice ad A.ds.length cd] 33)).alloc (.cells #[.int .u64 B.id, .slice bm B.ms.length em, .slice bl B.ls.length el, .slice bd B.ds.length ed] 33)) (w.heap.size + 1) B bm bl bd em el ed := by
    have := ViewBox.made (V := B) (am := bm) (al := bl) (ad := bd) (cm := em) (cl := el) (cd := ed) (w.alloc (.cells #[.int .u64 A.id, .slice am A.ms.length cm, .slice al A.ls.length cl, .slice ad A.ds.length cd] 33))
    simpa using this
  by_cases h1 : A.id = B.id
  · have h1' : (A.id == B.id) = true := by simpa using h1
    have H1 := hid h1
    clear h1
    cases h2 : decide (A.ms = B.ms)
    · have H2 := hid h2
      clear h2
      go_enter Try.func140, Try.ntmps140
      go_wp2_with (go_at_call 88; refine (equal_is H2 hA.lm hB.lm hA2.ms hBb.ms).mono ?_; rintro e w3 ⟨rfl, hb3⟩)
      go_ret
      exact ⟨ret_bool (by unfold sameB; rw [H2.out]; simp), hB2.trans (hb3.mono hB2.size)⟩
    · have H2 := hid h2
      clear h2
      cases h3 : decide (A.ls = B.ls)
      · have H3 := hid h3
        clear h3
        go_enter Try.func140, Try.ntmps140
        go_wp2_with (first
          | (go_at_call 88; refine (equal_is H2 hA.lm hB.lm hA2.ms hBb.ms).mono ?_; rintro e w3 ⟨rfl, hb3⟩; obtain ⟨a0, a1, a2, a3⟩ := xA.ext hb3 xA.lt; obtain ⟨b0, b1, b2, b3⟩ := xB.ext hb3 xB.lt)
          | (go_at_call 205; refine (equalFunc_is H3 hA.ll hB.ll (hA2.ext hb3).ls (hBb.ext hb3).ls hA.le hB.le).mono ?_; rintro e w4 ⟨rfl, hb4⟩))
        go_ret
        exact ⟨ret_bool (by unfold sameB; rw [H3.out]; simp), (hB2.trans (hb3.mono hB2.size)).trans (hb4.mono (by have := hB2.size; have := hb3.size; omega))⟩
      · have H3 := hid h3
        clear h3
        cases h4 : decide (A.ds = B.ds)
        all_goals
          have H4 := hid h4
          clear h4
          go_enter Try.func140, Try.ntmps140
          go_wp2_with (first
            | (go_at_call_of 88 am; (with_reducible refine (equal_is H2 hA.lm hB.lm hA2.ms hBb.ms).mono ?_); rintro e w3 ⟨rfl, hb3⟩; obtain ⟨a0, a1, a2, a3⟩ := xA.ext hb3 xA.lt; obtain ⟨b0, b1, b2, b3⟩ := xB.ext hb3 xB.lt)
            | (go_at_call 205; refine (equalFunc_is H3 hA.ll hB.ll (hA2.ext hb3).ls (hBb.ext hb3).ls hA.le hB.le).mono ?_; rintro e w4 ⟨rfl, hb4⟩; obtain ⟨d0, d1, d2, d3⟩ := (xA.ext hb3 xA.lt).ext hb4 (by have := xA.lt; have := hb3.size; omega); obtain ⟨e0, e1, e2, e3⟩ := (xB.ext hb3 xB.lt).ext hb4 (by have := xB.lt; have := hb3.size; omega))
            | (go_at_call 88; (with_reducible refine (equal_is H4 hA.ld hB.ld ((hA2.ext hb3).ext hb4).ds ((hBb.ext hb3).ext hb4).ds).mono ?_); rintro e w5 ⟨rfl, hb5⟩))
          go_ret
          exact ⟨ret_bool (by unfold sameB; rw [H2.out, H3.out, H4.out, decide_eq_true H1.out]; rfl), ((hB2.trans (hb3.mono hB2.size)).trans (hb4.mono (by have := hB2.size; have := hb3.size; omega))).trans (hb5.mono (by have := hB2.size; have := hb3.size; have := hb4.size; omega))⟩
  · have h1' : (A.id == B.id) = false := by simpa using h1
    have H1 : Hid (¬ A.id = B.id) := h1
    clear h1
    go_enter Try.func140, Try.ntmps140
    go_wp2
    go_ret
    exact ⟨ret_bool (by unfold sameB; rw [decide_eq_false H1.out]; rfl), hB2⟩

set_option maxRecDepth 100000 in
set_option maxHeartbeats 3200000 in
theorem refSame_any (hA : ViewR w am al ad A) (hB : ViewR w bm bl bd B) :
   Calls Try.prog 20 #[.agg #[.int .u64 A.id, .slice am A.ms.length cm, .slice al A.ls.length cl, .slice ad A.ds.length cd], .agg #[.int .u64 B.id, .slice bm B.ms.length em, .slice bl B.ls.length el, .slice bd B.ds.length ed]] w fun e w' => e = .returned (.bool (sameB A B)) ∧ Below w.heap.size w w' := by
  have hB2 : Below w.heap.size w ((w.alloc (.cells #[.int .u64 A.id, .slice am A.ms.length cm, .slice al A.ls.length cl, .slice ad A.ds.length cd] 33)).alloc (.cells #[.int .u64 B.id, .slice bm B.ms.length em, .slice bl B.ls.length el, .slice bd B.ds.length ed] 33)) := ((Below.refl _ _).alloc (Nat.le_refl _) _).alloc (by simp) _
  have hA2 := hA.ext hB2
  have hBb := hB.ext hB2
  have xA : ViewBox ((w.alloc (.cells #[.int .u64 A.id, .slice am A.ms.length cm, .slice al A.ls.length cl, .slice ad A.ds.length cd] 33)).alloc (.cells #[.int .u64 B.id, .slice bm B.ms.length em, .slice bl B.ls.length el, .slice bd B.ds.length ed] 33)) w.heap.size A am al ad cm cl cd := (ViewBox.made (V := A) w).ext ((Below.refl _ _).alloc (Nat.le_refl _) _) (by simp)
  have xB : ViewBox ((w.alloc (.cells #[.int .u64 A.id, .slice am A.ms.length cm, .slice al A.ls.length cl, .slice ad A.ds.length cd] 33)).alloc (.cells #[.int .u64 B.id, .slice bm B.ms.length em, .slice bl B.ls.length el, .slice bd B.ds.length ed] 33)) (w.heap.size + 1) B bm bl bd em el ed := by
    have := ViewBox.made (V := B) (am := bm) (al := bl) (ad := bd) (cm := em) (cl := el) (cd := ed) (w.alloc (.cells #[.int .u64 A.id, .slice am A.ms.length cm, .slice al A.ls.length cl, .slice ad A.ds.length cd] 33))
    simpa using this
  have hAll := hA.ll
  have hBll := hB.ll
  by_cases h1 : A.id = B.id
  · have h1' : (A.id != B.id) = false := by simpa using h1
    have H1 := hid h1
    clear h1
    cases h2 : decide (A.ms = B.ms)
    · have H2 := hid h2
      clear h2
      go_enter Try.func20, Try.ntmps20
      go_wp2_with (go_at_call 66; refine (sameR_is H2 hA.lm hB.lm hA2.ms hBb.ms).mono ?_; rintro e w3 ⟨rfl, hb3⟩)
      go_ret
      exact ⟨ret_bool (by unfold sameB; rw [H2.out]; simp), hB2.trans (hb3.mono hB2.size)⟩
    · have H2 := hid h2
      clear h2
      cases h4 : decide (A.ds = B.ds)
      · have H4 := hid h4
        clear h4
        go_enter Try.func20, Try.ntmps20
        go_wp2_with (first
          | (go_at_call_of 66 am; (with_reducible refine (sameR_is H2 hA.lm hB.lm hA2.ms hBb.ms).mono ?_); rintro e w3 ⟨rfl, hb3⟩; obtain ⟨a0, a1, a2, a3⟩ := xA.ext hb3 xA.lt; obtain ⟨b0, b1, b2, b3⟩ := xB.ext hb3 xB.lt)
          | (go_at_call 66; (with_reducible refine (sameR_is H4 hA.ld hB.ld (hA2.ext hb3).ds (hBb.ext hb3).ds).mono ?_); rintro e w4 ⟨rfl, hb4⟩))
        go_ret
        exact ⟨ret_bool (by unfold sameB; rw [H4.out]; simp), (hB2.trans (hb3.mono hB2.size)).trans (hb4.mono (by have := hB2.size; have := hb3.size; omega))⟩
      · have H4 := hid h4
        clear h4
        by_cases hl : A.ls.length = B.ls.length
        · have hl' : ((A.ls.length : Int) != (B.ls.length : Int)) = false := by rw [hl]; simp
          have hsp := eqLFrom_eq hl
          have HL := hid hl
          have HSP : Hid (sameB A B = eqLFrom A.ls B.ls) := by unfold sameB Hid; rw [H2.out, H4.out, decide_eq_true H1.out, ← hsp]; simp
          clear hl hsp
          go_enter Try.func20, Try.ntmps20
          go_wp2_with (first
            | (go_at_call_of 66 am; (with_reducible refine (sameR_is H2 hA.lm hB.lm hA2.ms hBb.ms).mono ?_); rintro e w3 ⟨rfl, hb3⟩; obtain ⟨a0, a1, a2, a3⟩ := xA.ext hb3 xA.lt; obtain ⟨b0, b1, b2, b3⟩ := xB.ext hb3 xB.lt)
            | (go_at_call 66; (with_reducible refine (sameR_is H4 hA.ld hB.ld (hA2.ext hb3).ds (hBb.ext hb3).ds).mono ?_); rintro e w4 ⟨rfl, hb4⟩; obtain ⟨d0, d1, d2, d3⟩ := (xA.ext hb3 xA.lt).ext hb4 (by have := xA.lt; have := hb3.size; omega); obtain ⟨e0, e1, e2, e3⟩ := (xB.ext hb3 xB.lt).ext hb4 (by have := xB.lt; have := hb3.size; omega)))
          have s3 := hb3.size
          have s4 := hb4.size
          have s2 := hB2.size
          have xA4 := (xA.ext hb3 xA.lt).ext hb4 (by have := xA.lt; omega)
          have xB4 := (xB.ext hb3 xB.lt).ext hb4 (by have := xB.lt; omega)
          have hA4 := (hA2.ext hb3).ext hb4
          have hB4 := (hBb.ext hb3).ext hb4
          have hW4 : Below w.heap.size w w4 := (hB2.trans (hb3.mono s2)).trans (hb4.mono (by omega))
          clear hb3 hb4 hA2 hBb xA xB a0 a1 a2 a3 b0 b1 b2 b3 d0 d1 d2 d3 e0 e1 e2 e3 hB2
          go_loopw [4, 5] (fun rs kv wr => rs = .bool false ∧ ∃ k : Nat, k ≤ A.ls.length ∧ kv = .int .i64 k ∧ Hid (sameB A B = eqLFrom (A.ls.drop k) (B.ls.drop k)) ∧ Below w4.heap.size w4 wr) (fun _ kv _ => A.ls.length - (intOf kv).toNat)
          case atStart => exact ⟨rfl, 0, Nat.zero_le _, rfl, HSP, Below.refl _ _⟩
          case round =>
            obtain ⟨rfl, k, hk, rfl, ha, hb⟩ := hrel
            obtain ⟨a0, a1, a2, a3⟩ := xA4.ext hb xA4.lt
            obtain ⟨b0, b1, b2, b3⟩ := xB4.ext hb xB4.lt
            by_cases hkt : k < A.ls.length
            · have hkt' : k < B.ls.length := by have := HL.out; omega
              obtain ⟨p1, o1, a1', c1, l1, rfl, hx1, q1, r1⟩ := hA4.ls.at hb rfl hkt
              obtain ⟨p2, o2, a2', c2, l2, rfl, hx2, q2, r2⟩ := hB4.ls.at hb rfl hkt'
              have hl1 : l1.length ≤ 70368744177664 := hA.le l1 (by rw [hx1]; exact List.getElem_mem _)
              have hl2 : l2.length ≤ 70368744177664 := hB.le l2 (by rw [hx2]; exact List.getElem_mem _)
              have hd := eqLFrom_drop hkt hkt' hx1 hx2
              have HD := hid hd
              have u1 := cell_extw a2
              have u2 := cell_extw b2
              have u3 := cell_extw q1
              have u4 := cell_extw q2
              clear hd hx1 hx2
              cases hxy : decide (l1 = l2)
              · have HXY := hid hxy
                clear hxy
                go_wp2
                refine wp_region_ext (w := wr) (Below.refl _ _) (by kernel_rfl) (by kernel_rfl) ?_
                repeat (go_big_quiet_step (exact sameR_ext HXY hl1 hl2 r1 r2))
                refine wpQuiet_nil ?_
                rintro w9 ⟨⟨_, hb9⟩, rfl⟩
                go_wp2
                go_ret
                exact ⟨ret_bool (by rw [ha.out, HD.out, if_neg (of_decide_eq_false HXY.out)]), hW4.trans ((hb.trans (hb9.mono hb.size)).mono hW4.size)⟩
              · have HXY := hid hxy
                clear hxy
                go_wp2
                refine wp_region_ext (w := wr) (Below.refl _ _) (by kernel_rfl) (by kernel_rfl) ?_
                repeat (go_big_quiet_step (exact sameR_ext HXY hl1 hl2 r1 r2))
                refine wpQuiet_nil ?_
                rintro w9 ⟨⟨_, hb9⟩, rfl⟩
                go_wp2
                go_roundw
                case rel => exact ⟨rfl, k + 1, by omega, by go_num, (ha.out.trans (by rw [HD.out, if_pos (of_decide_eq_true HXY.out)]) : _), hb.trans (hb9.mono hb.size)⟩
                case measure => simp [intOf]; omega
            · go_wp2
              go_ret
              exact ⟨ret_bool (by rw [ha.out, List.drop_eq_nil_of_le (by omega)]; rfl), hW4.trans (hb.mono hW4.size)⟩
        · have hl' : ((A.ls.length : Int) != (B.ls.length : Int)) = true := by rw [bne_iff_ne]; omega
          have HNE : Hid (sameB A B = false) := by
            have : decide (A.ls = B.ls) = false := by simp; intro e; exact hl (by rw [e])
            unfold sameB Hid; rw [this]; simp
          clear hl
          go_enter Try.func20, Try.ntmps20
          go_wp2_with (first
            | (go_at_call_of 66 am; (with_reducible refine (sameR_is H2 hA.lm hB.lm hA2.ms hBb.ms).mono ?_); rintro e w3 ⟨rfl, hb3⟩; obtain ⟨a0, a1, a2, a3⟩ := xA.ext hb3 xA.lt; obtain ⟨b0, b1, b2, b3⟩ := xB.ext hb3 xB.lt)
            | (go_at_call 66; (with_reducible refine (sameR_is H4 hA.ld hB.ld (hA2.ext hb3).ds (hBb.ext hb3).ds).mono ?_); rintro e w4 ⟨rfl, hb4⟩; obtain ⟨d0, d1, d2, d3⟩ := (xA.ext hb3 xA.lt).ext hb4 (by have := xA.lt; have := hb3.size; omega); obtain ⟨e0, e1, e2, e3⟩ := (xB.ext hb3 xB.lt).ext hb4 (by have := xB.lt; have := hb3.size; omega)))
          go_ret
          exact ⟨ret_bool HNE.out.symm, (hB2.trans (hb3.mono hB2.size)).trans (hb4.mono (by have := hB2.size; have := hb3.size; omega))⟩
  · have h1' : (A.id != B.id) = true := by simpa using h1
    have H1 : Hid (¬ A.id = B.id) := h1
    clear h1
    go_enter Try.func20, Try.ntmps20
    go_wp2
    go_ret
    exact ⟨ret_bool (by unfold sameB; rw [decide_eq_false H1.out]; rfl), hB2⟩
end
theorem sameB_refl (A : View) : sameB A A = true := by simp [sameB]
end Go.Proofs.Ytbpfhclcjedkcaa

namespace Go.Proofs.Ytbpfhclcjedkcaa
open Go.RowKit
/-! ### bytes -/
theorem addr_addB (b off n : Nat) : (⟨b, off, none⟩ : Addr).add n = ⟨b, off + n, none⟩ := by
  unfold Addr.add; split <;> simp_all
theorem cell_toB {w wr : World} {a : Addr} {v : Value} (h : w.cell? a = some v) (hb : Below w.heap.size w wr) : wr.cell? a = some v := (hb.cell (World.block_lt_of_cell? w _ h)).trans h
def u8V (b : Nat) : Value := .int .u8 b
def u8C (bs : List Nat) : List Value := bs.map u8V
theorem u8C_len (bs : List Nat) : (u8C bs).length = bs.length := by simp [u8C]
theorem u8C_app (xs ys : List Nat) : u8C (xs ++ ys) = u8C xs ++ u8C ys := by simp [u8C]
theorem u8C_one (xs : List Nat) : ∀ u ∈ u8C xs, u.oneCell' = true := by
  intro u hu
  obtain ⟨b, _, rfl⟩ := List.mem_map.1 hu
  rfl
/-- the row of bytes behind a slice's address -/
def ByteRow (w : World) (a : Option Addr) (bs : List Nat) : Prop :=
  bs = [] ∨ ∃ b off, a = some ⟨b, off, none⟩ ∧ b < w.heap.size ∧ ∀ i (h : i < bs.length), w.cell? ⟨b, off + i, none⟩ = some (.int .u8 (bs[i] : Nat))
theorem ByteRow.ext {w w' : World} {a : Option Addr} {bs : List Nat} (h : ByteRow w a bs) (hb : Below w.heap.size w w') : ByteRow w' a bs := by
  rcases h with rfl | ⟨b, off, rfl, hlt, hc⟩
  · exact .inl rfl
  · exact .inr ⟨b, off, rfl, by have := hb.size; omega, fun i hi => by rw [hb.cell (by exact hlt)]; exact hc i hi⟩
theorem ByteRow.alloc {w : World} {a : Option Addr} {bs : List Nat} (h : ByteRow w a bs) (o : Obj) : ByteRow (w.alloc o) a bs := h.ext ((Below.refl _ _).alloc (Nat.le_refl _) _)
theorem ByteRow.grown {w w' : World} {a : Option Addr} {bs : List Nat} {row : Option Nat} (h : ByteRow w a bs) (hg : w.grownBy w' row) (hne : ∀ b off, a = some ⟨b, off, none⟩ → bs ≠ [] → row ≠ some b) : ByteRow w' a bs := by
  rcases h with rfl | ⟨b, off, rfl, hlt, hc⟩
  · exact .inl rfl
  · by_cases hl : bs = []
    · exact .inl hl
    · have hb := hg.block b hlt (fun e => hne b off rfl hl e.symm)
      exact .inr ⟨b, off, rfl, by have := hg.size; omega, fun i hi => (World.cell?_of_block (w := w) hb).trans (hc i hi)⟩
/-- the k-th byte, in any later world -/
theorem ByteRow.at {w wr : World} {a : Option Addr} {bs : List Nat} (h : ByteRow w a bs) {B : Nat} (hb : Below B w wr) (hB : B = w.heap.size) {k : Nat} (hk : k < bs.length) :
    ∃ b off x, a = some ⟨b, off, none⟩ ∧ x = bs[k] ∧ wr.cell? ⟨b, off + k, none⟩ = some (.int .u8 (x : Nat)) := by
  subst hB
  rcases h with rfl | ⟨b, off, rfl, hlt, hc⟩
  · simp at hk
  · exact ⟨b, off, bs[k], rfl, rfl, by rw [hb.cell (by exact hlt)]; exact hc k hk⟩
theorem ByteRow.cells {w : World} {b off : Nat} {bs : List Nat} (hc : ∀ i (h : i < bs.length), w.cell? ⟨b, off + i, none⟩ = some (.int .u8 (bs[i] : Nat))) :
    ∀ j u, (u8C bs)[j]? = some u → w.cell? ((⟨b, off, none⟩ : Addr).add j) = some u := by
  intro j u hu
  have hj : j < (u8C bs).length := (List.getElem?_eq_some_iff.1 hu).1
  rw [u8C_len] at hj
  rw [addr_addB]
  rw [hc j hj, ← hu]
  simp [u8C, u8V, hj]
/-- a cut of the row -/
theorem ByteRow.from {w : World} {a : Option Addr} {bs : List Nat} {k : Nat} {b off : Nat} (ha : a = some ⟨b, off, none⟩) (h : ByteRow w a bs) : ByteRow w (some ⟨b, off + k, none⟩) (bs.drop k) := by
  subst ha
  rcases h with rfl | ⟨b', off', e, hlt, hc⟩
  · exact .inl (by simp)
  · cases e
    refine .inr ⟨b, off + k, rfl, hlt, fun i hi => ?_⟩
    have := hc (k + i) (by simp at hi; omega)
    rw [List.getElem_drop, Nat.add_assoc]; exact this
theorem infoB : (Try.prog.info? 5).map (fun i => (i.zero, i.size, i.bytes)) = some (some (.int .u8 0), 1, 1) := by kernel_rfl
/-- a slice value that owns a row of bytes, from block base on -/
def OwnB (w : World) (base : Nat) (v : Value) (bs : List Nat) : Prop := w.ownsRow base 5 1 v bs.length (u8C bs)
theorem OwnB.nil (w : World) (base : Nat) : OwnB w base (.slice none 0 0) [] := World.ownsRow_nil _ _ _ _
theorem OwnB.ext {w w' : World} {base : Nat} {v : Value} {bs : List Nat} (h : OwnB w base v bs) (hb : Below w.heap.size w w') : OwnB w' base v bs := by
  refine ⟨h.1, ?_⟩
  rcases h.2 with hn | ⟨g, cap, cur, rfl, hbb, hgg, rest⟩
  · exact .inl hn
  · exact .inr ⟨g, cap, cur, rfl, hbb, (hb.block g (Array.getElem?_eq_some_iff.1 hgg).1).trans hgg, rest⟩
theorem OwnB.alloc {w : World} {base : Nat} {v : Value} {bs : List Nat} (h : OwnB w base v bs) (o : Obj) : OwnB (w.alloc o) base v bs := h.ext ((Below.refl _ _).alloc (Nat.le_refl _) _)
theorem OwnB.mono {w : World} {b b' : Nat} {v : Value} {bs : List Nat} (h : OwnB w b v bs) (hb : b' ≤ b) : OwnB w b' v bs := by
  refine ⟨h.1, ?_⟩
  rcases h.2 with hn | ⟨g, cap, cur, rfl, hbb, rest⟩
  · exact .inl hn
  · exact .inr ⟨g, cap, cur, rfl, Nat.le_trans hb hbb, rest⟩
theorem OwnB.row {w : World} {base : Nat} {v : Value} {bs : List Nat} (h : OwnB w base v bs) : ∃ a c, v = .slice a bs.length c ∧ ByteRow w a bs ∧ ∀ b off, a = some ⟨b, off, none⟩ → base ≤ b := by
  have hcells := fun g => World.ownsRow.cells (g := g) h
  rcases h.2 with ⟨rfl, hn⟩ | ⟨g, cap, cur, rfl, hb, hg, hnc, hcm, hcs, htake⟩
  · exact ⟨none, 0, by rw [hn], .inl (List.length_eq_zero_iff.1 hn), by simp⟩
  · refine ⟨_, cap, rfl, .inr ⟨g, 0, rfl, (Array.getElem?_eq_some_iff.1 hg).1, fun i hi => ?_⟩, fun b off e => by cases e; exact hb⟩
    have h1 := hcells g rfl i (.int .u8 (bs[i] : Nat)) (by simp [u8C, u8V, hi])
    rw [addr_addB] at h1
    exact h1
theorem OwnB.butT {w w' : World} {base t : Nat} {v : Value} {bs : List Nat} (h : OwnB w base v bs) (hb : ∀ k, k ≠ t → w'.heap[k]? = w.heap[k]?) (ht : some t ≠ v.ownBlock) : OwnB w' base v bs := by
  refine ⟨h.1, ?_⟩
  rcases h.2 with hn | ⟨g, cap, cur, rfl, hbb, hgg, rest⟩
  · exact .inl hn
  · exact .inr ⟨g, cap, cur, rfl, hbb, (hb g (fun e => ht (by rw [e]; rfl))).trans hgg, rest⟩
theorem run_appendB {w : World} {base : Nat} {v : Value} {xs ys : List Nat} (hown : OwnB w base v xs) {a : Option Addr} {c : Nat} (hy : ByteRow w a ys) (hlen : xs.length + ys.length ≤ 1099511627776) (hbase : base ≤ w.heap.size) (ty : TypeId) :
    ∃ v' w', (Builtin.append_ #[42, 42] ty #[v, .slice a ys.length c]).run Try.prog w = .ok v' w' ∧ OwnB w' base v' (xs ++ ys) ∧ w.grownBy w' v.ownBlock ∧ (v'.ownBlock = v.ownBlock ∨ v'.ownBlock = some w.heap.size) := by
  obtain ⟨i0, hi, hz0, hz1, hz2⟩ := info_parts infoB
  have main : ∀ ad : Addr, a = some ad → (∀ j u, (u8C ys)[j]? = some u → w.cell? (ad.add j) = some u) → ∃ v' w', (Builtin.append_ #[42, 42] ty #[v, .slice a ys.length c]).run Try.prog w = .ok v' w' ∧ OwnB w' base v' (xs ++ ys) ∧ w.grownBy w' v.ownBlock ∧ (v'.ownBlock = v.ownBlock ∨ v'.ownBlock = some w.heap.size) := by
    intro ad he hc
    subst he
    obtain ⟨v', w', hr, h2, h3, h4, h5⟩ := run_append_own_at (P := Try.prog) w base 42 ty 5 i0 _ 1 1 Try.underlying42 hi hz0 hz1 hz2 rfl (by decide) v xs.length (u8C xs) hown ad ys.length c (u8C ys) (by rw [u8C_len]; omega) hc (u8C_one ys) (by unfold maxLen; omega) (by omega) hbase
    refine ⟨v', w', hr, ?_, h3, h5⟩
    unfold OwnB; rw [List.length_append, u8C_app]; exact h2
  rcases hy with rfl | ⟨b, off, rfl, hlt, hc⟩
  · cases a with
    | some ad => exact main ad rfl (by simp [u8C])
    | none =>
      refine ⟨v, w, ?_, by simpa using hown, ⟨rfl, rfl, rfl, Nat.le_refl _, fun _ _ _ => rfl⟩, .inl rfl⟩
      rcases hown.2 with ⟨rfl, hn⟩ | ⟨g, cap, cur, rfl, hb, hg, hnc, hcm, hcs, htake⟩
      · simp [Builtin.append_, run_underlying Try.underlying42, sizeOf, typeInfo, hi, Builtin.lenOf, Builtin.firstCells]
      · simp [Builtin.append_, run_underlying Try.underlying42, sizeOf, typeInfo, hi, Builtin.lenOf, Builtin.firstCells, hnc, storeCells]
  · exact main _ rfl (ByteRow.cells hc)
/-- 'append(out, ys...)' at the operation -/
theorem wpList_appendB {w : World} {ops : Array Oper} {rest : List Oper} {o : Oper} {a : Act} {Q : Exit → Act → World → Prop} {s x : Operand} {base : Nat} {v : Value} {xs ys : List Nat} (hown : OwnB w base v xs) {ad : Option Addr} {c n : Nat} (hy : ByteRow w ad ys) (hn : Hid (ys.length = n))
    (hlen : xs.length + n ≤ 1099511627776) (hbase : base ≤ w.heap.size)
    (hg : o.guard = none) (ho : o.op = .call { callee := .builtin .append, args := #[s, x], argTypes := #[42, 42] }) (hs : a.eval s = v) (hx : a.eval x = .slice ad n c)
    (h : ∀ v' w', OwnB w' base v' (xs ++ ys) → w.grownBy w' v.ownBlock → (v'.ownBlock = v.ownBlock ∨ v'.ownBlock = some w.heap.size) → wpList Try.prog ops Q rest (a.put o.dst v') w') : wpList Try.prog ops Q (o :: rest) a w := by
  have hn := hn.out; subst hn
  obtain ⟨v', w', hr, h2, h3, h4⟩ := run_appendB hown (c := c) hy hlen hbase o.type
  exact Lib.wpList_append_run w hg s x 42 42 ho _ _ hs hx v' w' hr (h v' w' h2 h3 h4)
/-- one byte in a block of its own -/
theorem ByteRow.one (w : World) (x : Nat) : ByteRow (w.alloc (.cells #[.int .u8 x] 5)) (some ⟨w.heap.size, 0, none⟩) [x] :=
  .inr ⟨w.heap.size, 0, rfl, by simp, fun i hi => by have : i = 0 := by simpa using hi
                                                     subst this; simp⟩
theorem below_of_grown {B : Nat} {w0 w w' : World} {base : Nat} {v : Value} {xs : List Nat} (hb : Below B w0 w) (hg : w.grownBy w' v.ownBlock) (hown : OwnB w base v xs) (hB : B ≤ w.heap.size) (hbase : B ≤ base) : Below B w0 w' :=
  hb.grown hg hB (fun g hg => Nat.le_trans hbase (World.ownsRow.lt hown g hg).1)
theorem run_makeB (w : World) (n m : Nat) (h : n + m ≤ 1099511627776) : (Instr.makeSlice 42 (.int .i64 (n : Nat)) (.int .i64 ((n : Int) + (m : Int)))).run Try.prog w = .ok (.slice (some ⟨w.heap.size, 0, none⟩) n (n + m)) (w.alloc (.cells (madeCells #[.int .u8 0] (n + m)) 5)) := by
  obtain ⟨i0, hi, hz0, hz1, hz2⟩ := info_parts infoB
  have := run_make (P := Try.prog) w 42 5 i0 (.int .u8 0) Try.underlying42 hi hz0 .i64 .i64 (n : Nat) ((n : Int) + (m : Int)) (by omega) (by omega) (by rw [hz2]; omega) (by omega)
  rw [hz1] at this
  have e1 : ((n : Int) + (m : Int)).toNat = n + m := by omega
  have e2 : ((n : Nat) : Int).toNat = n := by omega
  rw [e1, e2] at this
  simpa [Value.cells] using this

/-! ### short forms -/
def short (n : Nat) : List Nat := if h : n < 128 then [n] else (n % 128 + 128) :: short (n / 128)
termination_by n
decreasing_by omega
theorem short_lt {n : Nat} (h : n < 128) : short n = [n] := by rw [short]; simp [h]
theorem short_ge {n : Nat} (h : ¬ n < 128) : short n = (n % 128 + 128) :: short (n / 128) := by rw [short]; simp [h]
theorem short_len : ∀ (k n : Nat), n < 128 ^ (k + 1) → (short n).length ≤ k + 1
  | 0, n, h => by rw [short_lt (by simpa using h)]; simp
  | k + 1, n, h => by
    by_cases hn : n < 128
    · rw [short_lt hn]; simp
    · rw [short_ge hn]
      have := short_len k (n / 128) (by rw [Nat.pow_succ] at h; omega)
      simp; omega
theorem short_len10 {n : Nat} (h : n < 18446744073709551616) : (short n).length ≤ 10 := short_len 9 n (by omega)
end Go.Proofs.Ytbpfhclcjedkcaa

namespace Go.Proofs.Ytbpfhclcjedkcaa
open Go.RowKit
set_option maxRecDepth 100000 in
set_option maxHeartbeats 800000 in
theorem room_any {a : Option Addr} {c n : Nat} {bs : List Nat} {w : World} (m : Nat) (hn : Hid (bs.length = n)) (hl : n ≤ 549755813888) (hm : m ≤ 549755813888) (hrow : ByteRow w a bs) :
    Calls Try.prog 228 #[.slice a n c, .int .i64 m] w fun e w' => ∃ v, e = .returned v ∧ OwnB w' w.heap.size v bs ∧ Below w.heap.size w w' := by
  obtain ⟨i0, hi, hz0, hz1, hz2⟩ := info_parts infoB
  have hmk := run_makeB w n m (by omega)
  obtain ⟨Z, hZ⟩ : ∃ Z, madeCells #[.int .u8 0] (n + m) = Z := ⟨_, rfl⟩
  have hZs : Z.size = n + m := by rw [← hZ]; exact size_madeCells _ _
  rw [hZ] at hmk
  have HZ := hid hZs
  clear hZ hZs
  have hsz : (Try.prog.info? 5).map (·.size) = some 1 := by rw [hi]; simp [hz1]
  have hB : Below w.heap.size w (w.alloc (.cells Z 5)) := (Below.refl _ _).alloc (Nat.le_refl _) _
  have hpos : 0 < (u8C bs).length → (some ⟨w.heap.size, 0, none⟩ : Option Addr) = some ⟨w.heap.size, 0, none⟩ ∧ ∃ ad, a = some ad ∧ ∀ j v, (u8C bs)[j]? = some v → (w.alloc (.cells Z 5)).cell? (ad.add j) = some v := by
    intro h
    rcases hrow.alloc (.cells Z 5) with rfl | ⟨b, off, rfl, hlt, hc⟩
    · simp [u8C] at h
    · exact ⟨rfl, _, rfl, ByteRow.cells hc⟩
  have HPOS := hid hpos
  have HSZ := hid hsz
  clear hpos hsz
  go_enter Try.func228, Try.ntmps228
  go_wp2_with (with_reducible refine wpList_copy_splice rfl (.tmp 13) (.tmp 14) 42 42 rfl 5 Try.underlying42 HSZ.out (some ⟨w.heap.size, 0, none⟩) a n (n + m) n c rfl rfl w.heap.size 0 Z.toList 5 (by rw [Array.toArray_toList]; exact heap_alloc_new w _) (u8C bs) (by rw [u8C_len, hn.out]; simp) HPOS.out (by rw [u8C_len, hn.out]; have := HZ.out; simp; omega) (u8C_one bs) w.heap.size w hB (Nat.le_refl _) ?_; intro w4 hg4 hb4)
  go_ret
  refine ⟨_, rfl, ?_, hb4⟩
  unfold OwnB
  rw [hn.out]
  have h1 := hg4.out
  have hlen : (u8C bs).length = n := by rw [u8C_len, hn.out]
  have hZt : Z.toList.length = n + m := by have := HZ.out; simpa using this
  refine ⟨by rw [hlen]; omega, .inr ⟨w.heap.size, n + m, (splice Z.toList 0 (u8C bs)).toArray, rfl, Nat.le_refl _, h1, by omega, by unfold maxLen; omega, ?_, ?_⟩⟩
  · simp [length_splice Z.toList 0 (u8C bs) (by omega), hZt]
  · simp [splice, hlen]
theorem or128 (n : Nat) : bits .or .u8 ((n : Int) % 256) 128 = ((n % 128 + 128 : Nat) : Int) := by
  have := u8_or_nat (n % 256) 128 (by omega) (by decide)
  rw [show ((128 : Nat) : Int) = 128 from rfl, show ((n % 256 : Nat) : Int) = (n : Int) % 256 by omega] at this
  rw [this]
  congr 1
  have h2 := Nat.two_pow_add_eq_or_of_lt (i := 7) (b := n % 128) (by omega) 1
  have h3 : n % 256 ||| 128 = n % 128 ||| 128 := by
    apply Nat.eq_of_testBit_eq
    intro j
    rw [Nat.testBit_or, Nat.testBit_or, show (256 : Nat) = 2 ^ 8 from rfl, show n % 128 = n % 2 ^ 7 from rfl, Nat.testBit_mod_two_pow, Nat.testBit_mod_two_pow]
    have e : (128 : Nat).testBit j = decide (j = 7) := by
      rw [show (128 : Nat) = 2 ^ 7 from rfl, Nat.testBit_two_pow]
      rw [Bool.eq_iff_iff]; simp; omega
    rw [e]
    by_cases h : j = 7
    · simp [h]
    · have : (j < 8 ↔ j < 7) := by omega
      simp [h, this]
  rw [h3, Nat.or_comm]
  simpa [Nat.add_comm] using h2.symm
set_option maxRecDepth 100000 in
set_option maxHeartbeats 1600000 in
theorem putShort_any {a : Option Addr} {c n : Nat} {bs : List Nat} {w : World} (m : Nat) (hn : Hid (bs.length = n)) (hl : n ≤ 274877906944) (hm : m < 18446744073709551616) (hrow : ByteRow w a bs) :
    Calls Try.prog 181 #[.slice a n c, .int .u64 m] w fun e w' => ∃ v, e = .returned v ∧ OwnB w' w.heap.size v (bs ++ short m) ∧ Below w.heap.size w w' := by
  have hl10 := short_len10 hm
  obtain ⟨F, hF⟩ : ∃ F, bs ++ short m = F := ⟨_, rfl⟩
  have hFl : F.length ≤ n + 10 := by rw [← hF, List.length_append, hn.out]; omega
  rw [hF]
  have HF := hid hF
  clear hF
  go_enter Try.func181, Try.ntmps181
  go_wp2_with (go_at_call 228; refine (room_any 10 hn (by omega) (by decide) hrow).mono ?_; rintro e w1 ⟨v1, rfl, hown1, hb1⟩)
  go_loopw [1, 5] (fun i v wr => ∃ (k : Nat) (got : List Nat), k < 18446744073709551616 ∧ i = .int .u64 k ∧ Hid (F = got ++ short k) ∧ OwnB wr w.heap.size v got ∧ Below w.heap.size w wr) (fun i _ _ => (intOf i).toNat)
  case atStart => exact ⟨m, bs, hm, rfl, HF.out.symm, hown1, hb1⟩
  case round =>
    obtain ⟨k, got, hk, rfl, hM, hown, hb⟩ := hrel
    have hgl : got.length ≤ n + 10 := by have := congrArg List.length hM.out; rw [List.length_append] at this; omega
    have hsz := hb.size
    by_cases hge : 128 ≤ k
    · have hge' : decide (128 ≤ k) = true := by simpa using hge
      obtain ⟨x, hx⟩ : ∃ x, k % 128 + 128 = x := ⟨_, rfl⟩
      have e2 : bits .or .u8 ((k : Int) % 256) 128 = ((x : Nat) : Int) := by rw [← hx]; exact or128 k
      have hM2 : Hid (F = (got ++ [x]) ++ short (k / 128)) := hid (by rw [hM.out, short_ge (by omega), hx]; simp)
      clear hx
      go_wp2_with (at_builtin; refine wpList_appendB (hown.alloc _) (ByteRow.one _ x) (hid rfl) (by simp; omega) (by simp; omega) rfl rfl rfl rfl ?_; intro v2 w2 hown2 hg2 hat2)
      have hB2 : Below w.heap.size w w2 := below_of_grown (hb.alloc hsz _) hg2 (hown.alloc _) (by simp; omega) (Nat.le_refl _)
      go_roundw
      case rel => exact ⟨k / 128, got ++ [x], by omega, by go_num, hM2, hown2, hB2⟩
      case measure => simp [intOf]; omega
    · have hge' : decide (128 ≤ k) = false := by simpa using hge
      have hM2 : Hid (F = got ++ [k]) := hid (by rw [hM.out, short_lt (by omega)])
      have e3 : (k : Int) % 256 = k := by omega
      go_wp2_with (at_builtin; refine wpList_appendB (hown.alloc _) (ByteRow.one _ k) (hid rfl) (by simp; omega) (by simp; omega) rfl rfl rfl rfl ?_; intro v2 w2 hown2 hg2 hat2)
      have hB2 : Below w.heap.size w w2 := below_of_grown (hb.alloc hsz _) hg2 (hown.alloc _) (by simp; omega) (Nat.le_refl _)
      go_ret
      exact ⟨_, rfl, by rw [hM2.out]; exact hown2, hB2⟩
set_option maxRecDepth 100000 in
set_option maxHeartbeats 1600000 in
theorem shortR_any {w : World} (m : Nat) (hm : m < 18446744073709551616) :
    Calls Try.prog 187 #[.int .u64 m] w fun e w' => ∃ v, e = .returned v ∧ OwnB w' w.heap.size v (short m) ∧ Below w.heap.size w w' := by
  have hl10 := short_len10 hm
  obtain ⟨F, hF⟩ : ∃ F, short m = F := ⟨_, rfl⟩
  rw [hF] at hl10 ⊢
  have HF := hid hF
  clear hF
  go_enter Try.func187, Try.ntmps187
  go_wp2
  go_loopw [0, 3] (fun i v wr => ∃ (k : Nat) (got : List Nat), k < 18446744073709551616 ∧ i = .int .u64 k ∧ Hid (F = got ++ short k) ∧ OwnB wr w.heap.size v got ∧ Below w.heap.size w wr) (fun i _ _ => (intOf i).toNat)
  case atStart => exact ⟨m, [], hm, rfl, by show F = [] ++ short m; exact HF.out.symm, OwnB.nil _ _, Below.refl _ _⟩
  case round =>
    obtain ⟨k, got, hk, rfl, hM, hown, hb⟩ := hrel
    have hgl : got.length ≤ 10 := by have := congrArg List.length hM.out; rw [List.length_append] at this; omega
    have hsz := hb.size
    by_cases hge : 128 ≤ k
    · have hge' : decide (128 ≤ k) = true := by simpa using hge
      obtain ⟨x, hx⟩ : ∃ x, k % 128 + 128 = x := ⟨_, rfl⟩
      have e2 : ((k : Int) % 128) % 256 = (k : Int) % 128 := by omega
      have e4 : (k : Int) % 128 + 128 = ((x : Nat) : Int) := by omega
      have e5 : (x : Int) % 256 = (x : Int) := by omega
      have hM2 : Hid (F = (got ++ [x]) ++ short (k / 128)) := hid (by rw [hM.out, short_ge (by omega), hx]; simp)
      clear hx
      go_wp2_with (at_builtin; refine wpList_appendB (hown.alloc _) (ByteRow.one _ x) (hid rfl) (by simp; omega) (by simp; omega) rfl rfl rfl rfl ?_; intro v2 w2 hown2 hg2 hat2)
      have hB2 : Below w.heap.size w w2 := below_of_grown (hb.alloc hsz _) hg2 (hown.alloc _) (by simp; omega) (Nat.le_refl _)
      go_roundw
      case rel => exact ⟨k / 128, got ++ [x], by omega, by go_num, hM2, hown2, hB2⟩
      case measure => simp [intOf]; omega
    · have hge' : decide (128 ≤ k) = false := by simpa using hge
      have hM2 : Hid (F = got ++ [k]) := hid (by rw [hM.out, short_lt (by omega)])
      have e3 : (k : Int) % 256 = k := by omega
      go_wp2_with (at_builtin; refine wpList_appendB (hown.alloc _) (ByteRow.one _ k) (hid rfl) (by simp; omega) (by simp; omega) rfl rfl rfl rfl ?_; intro v2 w2 hown2 hg2 hat2)
      have hB2 : Below w.heap.size w w2 := below_of_grown (hb.alloc hsz _) hg2 (hown.alloc _) (by simp; omega) (Nat.le_refl _)
      go_ret
      exact ⟨_, rfl, by rw [hM2.out]; exact hown2, hB2⟩
end Go.Proofs.Ytbpfhclcjedkcaa

namespace Go.Proofs.Ytbpfhclcjedkcaa
open Go.RowKit
/-! ### a process's form in plain words -/
def pidF (p : Pid) : List Nat := short p.1.toNat ++ short p.2.toNat
def okP (p : Pid) : Prop := 0 ≤ p.1 ∧ p.1 < 65536 ∧ 0 ≤ p.2 ∧ p.2 < 4294967296
end Go.Proofs.Ytbpfhclcjedkcaa

namespace Go.Proofs.Ytbpfhclcjedkcaa
open Go.RowKit
theorem putShort_is {a : Option Addr} {c n : Nat} {bs F : List Nat} {w : World} {m : Nat} (hF : Hid (bs ++ short m = F)) (hn : Hid (bs.length = n)) (hl : n ≤ 274877906944) (hm : m < 18446744073709551616) (hrow : ByteRow w a bs) :
    Calls Try.prog 181 #[.slice a n c, .int .u64 m] w fun e w' => ∃ a' c', e = .returned (.slice a' F.length c') ∧ OwnB w' w.heap.size (.slice a' F.length c') F ∧ ByteRow w' a' F ∧ Below w.heap.size w w' := by
  refine (putShort_any (c := c) m hn hl hm hrow).mono ?_
  rintro e w' ⟨v, rfl, hown, hb⟩
  rw [hF.out] at hown
  obtain ⟨a', c', rfl, hr, -⟩ := hown.row
  exact ⟨a', c', rfl, hown, hr, hb⟩
theorem relB {w w0 : World} {K : Nat} {args : Array Value} {Q : Ending → World → Prop} (hb : Below w0.heap.size w0 w) (h : Calls Try.prog K args w fun e w' => Q e w' ∧ Below w.heap.size w w') : Calls Try.prog K args w fun e w' => Q e w' ∧ Below w0.heap.size w0 w' :=
  h.mono fun _ _ ⟨h1, h2⟩ => ⟨h1, hb.trans (h2.mono hb.size)⟩
set_option maxRecDepth 100000 in
set_option maxHeartbeats 1600000 in
theorem pidPut_any {a : Option Addr} {c n : Nat} {bs : List Nat} {w : World} (x y : Nat) (hn : Hid (bs.length = n)) (hl : n ≤ 137438953472) (hx : x < 65536) (hy : y < 4294967296) (hrow : ByteRow w a bs) :
    Calls Try.prog 182 #[.slice a n c, .agg #[.int .u16 x, .int .u32 y]] w fun e w' => ∃ v, e = .returned v ∧ OwnB w' w.heap.size v (bs ++ (short x ++ short y)) ∧ Below w.heap.size w w' := by
  have hB : Below w.heap.size w (w.alloc (.cells #[.int .u16 x, .int .u32 y] 26)) := (Below.refl _ _).alloc (Nat.le_refl _) _
  have hr1 := hrow.ext hB
  have hlx := short_len10 (n := x) (by omega)
  obtain ⟨F, hF⟩ : ∃ F, bs ++ short x = F := ⟨_, rfl⟩
  obtain ⟨NF, hNF⟩ : ∃ NF, F.length = NF := ⟨_, rfl⟩
  have hNFl : NF ≤ n + 10 := by rw [← hNF, ← hF, List.length_append, hn.out]; omega
  have HF2 : Hid (bs ++ (short x ++ short y) = F ++ short y) := hid (by rw [← hF, List.append_assoc])
  have hc0 : (w.alloc (.cells #[.int .u16 x, .int .u32 y] 26)).cell? ⟨w.heap.size, 0, none⟩ = some (.int .u16 x) := by simp
  have hc1 : (w.alloc (.cells #[.int .u16 x, .int .u32 y] 26)).cell? ⟨w.heap.size, 1, none⟩ = some (.int .u32 y) := by simp
  have HF := hid hF
  have HNF := hid hNF
  clear hF hNF
  obtain ⟨w1, hw1⟩ : ∃ w1, w.alloc (.cells #[.int .u16 x, .int .u32 y] 26) = w1 := ⟨_, rfl⟩
  rw [hw1] at hB hr1 hc0 hc1
  have H0 : Below w1.heap.size w1 w1.drew := (Below.refl _ _).drew
  have HS : Hid (∀ W, Below w1.heap.size w1 W → Below w1.heap.size w1 W ∧ W.cell? ⟨w.heap.size, 0, none⟩ = some (.int .u16 x) ∧ W.cell? ⟨w.heap.size, 1, none⟩ = some (.int .u32 y)) := hid fun W h => ⟨h, cell_toB hc0 h, cell_toB hc1 h⟩
  have C1 : Hid (∀ W, Below w1.heap.size w1 W → Calls Try.prog 181 #[.slice a n c, .int .u64 x] W fun e w' => ∃ a' c', e = .returned (.slice a' NF c') ∧ ByteRow w' a' F ∧ Below w1.heap.size w1 w') := hid fun W h => ((putShort_is HF hn (by omega) (by omega) (hr1.ext h)).mono fun e w' ⟨a', c', h1, _, h3, h4⟩ => ⟨a', c', by rw [← HNF.out]; exact h1, h3, h.trans (h4.mono h.size)⟩)
  have C2 : Hid (∀ W a' c', Below w1.heap.size w1 W → ByteRow W a' F → Calls Try.prog 181 #[.slice a' NF c', .int .u64 y] W fun e w' => ∃ v, e = .returned v ∧ OwnB w' w1.heap.size v (F ++ short y) ∧ Below w1.heap.size w1 w') := hid fun W a' c' h hr => ((putShort_any y HNF (by omega) (by omega) hr).mono fun e w' ⟨v, h1, h3, h4⟩ => ⟨v, h1, h3.mono h.size, h.trans (h4.mono h.size)⟩)
  clear hr1 hc0 hc1 hrow
  have ew1 : IntKind.u64.wrap ((x : Nat) : Int) = ((x : Nat) : Int) := by rw [IntKind.wrap_u64]; omega
  have ew2 : IntKind.u64.wrap ((y : Nat) : Int) = ((y : Nat) : Int) := by rw [IntKind.wrap_u64]; omega
  go_enter Try.func182, Try.ntmps182
  go_wp2
  go_region_held3 (fun W => Below w1.heap.size w1 W ∧ W.cell? ⟨w.heap.size, 0, none⟩ = some (.int .u16 x) ∧ W.cell? ⟨w.heap.size, 1, none⟩ = some (.int .u32 y)) (first | exact HS.out _ H0 | exact HS.out _ (by assumption)) (first
    | ((go_at_call 181; (with_reducible refine (C1.out _ (by first | exact H0 | assumption)).mono ?_); rintro e w11 ⟨a11, c11, rfl, hrow11, hb11⟩))
    | ((go_at_call 181; (with_reducible refine (C2.out _ _ _ (by assumption) (by assumption)).mono ?_); rintro e w12 ⟨v12, rfl, hown12, hb12⟩)))
  all_goals (
    clear ew1 ew2
    go_wp2
    go_ret
    exact ⟨_, rfl, by rw [HF2.out]; exact hown12.mono hB.size, hB.trans (hb12.mono hB.size)⟩)
end Go.Proofs.Ytbpfhclcjedkcaa

namespace Go.Proofs.Ytbpfhclcjedkcaa
open Go.RowKit
theorem step_appendB {w : World} {o : Oper} {a : Go.Act} {K : Go.Act → World → Prop} {Q : Exit → Go.Act → World → Prop} {y : Nat → Option Bool} {s x : Operand} {base : Nat} {v : Value} {xs ys : List Nat} {ad : Option Addr} {n c : Nat} (hw : Region.wanted o y = true) (hown : OwnB w base v xs) (hy : ByteRow w ad ys) (hn : Hid (ys.length = n))
    (hlen : xs.length + n ≤ 1099511627776) (hbase : base ≤ w.heap.size)
    (ho : o.op = .call { callee := .builtin .append, args := #[s, x], argTypes := #[42, 42] }) (hs : a.eval s = v) (hx : a.eval x = .slice ad n c)
    (h : ∀ v' w', OwnB w' base v' (xs ++ ys) → w.grownBy w' v.ownBlock → K (a.put o.dst v') w') : if Region.wanted o y = true then Oper.wp Try.prog o a w K Q else K (a.put o.dst undef) w := by
  rw [if_pos hw]
  have hn := hn.out; subst hn
  obtain ⟨v', w', hr, h2, h3, h4⟩ := run_appendB hown (c := c) hy hlen hbase o.type
  exact Lib.wp_append_run w s x 42 42 ho _ _ hs hx v' w' hr (h v' w' h2 h3)
theorem shortR_is {w : World} {m N : Nat} {F : List Nat} (hF : Hid (short m = F)) (hN : Hid (F.length = N)) (hm : m < 18446744073709551616) :
    Calls Try.prog 187 #[.int .u64 m] w fun e w' => ∃ a' c', e = .returned (.slice a' N c') ∧ OwnB w' w.heap.size (.slice a' N c') F ∧ ByteRow w' a' F ∧ Below w.heap.size w w' := by
  refine (shortR_any m hm).mono ?_
  rintro e w' ⟨v, rfl, hown, hb⟩
  rw [hF.out] at hown
  obtain ⟨a', c', rfl, hr, -⟩ := hown.row
  rw [hN.out] at *
  exact ⟨a', c', rfl, hown, hr, hb⟩
set_option maxRecDepth 100000 in
set_option maxHeartbeats 1600000 in
theorem pidPutR_any {w : World} (x y : Nat) (hx : x < 65536) (hy : y < 4294967296) :
    Calls Try.prog 108 #[.agg #[.int .u16 x, .int .u32 y]] w fun e w' => ∃ v, e = .returned v ∧ OwnB w' w.heap.size v (short x ++ short y) ∧ Below w.heap.size w w' := by
  have hB : Below w.heap.size w (w.alloc (.cells #[.int .u16 x, .int .u32 y] 26)) := (Below.refl _ _).alloc (Nat.le_refl _) _
  have hlx := short_len10 (n := x) (by omega)
  have hly := short_len10 (n := y) (by omega)
  obtain ⟨X, hX⟩ : ∃ F, short x = F := ⟨_, rfl⟩
  obtain ⟨Y, hY⟩ : ∃ F, short y = F := ⟨_, rfl⟩
  obtain ⟨NX, hNX⟩ : ∃ N, X.length = N := ⟨_, rfl⟩
  obtain ⟨NY, hNY⟩ : ∃ N, Y.length = N := ⟨_, rfl⟩
  rw [hX] at hlx
  rw [hY] at hly
  have hlX : X.length ≤ 10 := hlx
  have hlY : NY ≤ 10 := by omega
  rw [hX, hY]
  have hc0 : (w.alloc (.cells #[.int .u16 x, .int .u32 y] 26)).cell? ⟨w.heap.size, 0, none⟩ = some (.int .u16 x) := by simp
  have hc1 : (w.alloc (.cells #[.int .u16 x, .int .u32 y] 26)).cell? ⟨w.heap.size, 1, none⟩ = some (.int .u32 y) := by simp
  have HX := hid hX
  have HY := hid hY
  have HNX := hid hNX
  have HNY := hid hNY
  clear hX hY hNX hNY hlx hly
  obtain ⟨w1, hw1⟩ : ∃ w1, w.alloc (.cells #[.int .u16 x, .int .u32 y] 26) = w1 := ⟨_, rfl⟩
  rw [hw1] at hB hc0 hc1
  have H0 : Below w1.heap.size w1 w1.drew := (Below.refl _ _).drew
  have HS : Hid (∀ W, Below w1.heap.size w1 W → Below w1.heap.size w1 W ∧ W.cell? ⟨w.heap.size, 0, none⟩ = some (.int .u16 x) ∧ W.cell? ⟨w.heap.size, 1, none⟩ = some (.int .u32 y)) := hid fun W h => ⟨h, cell_toB hc0 h, cell_toB hc1 h⟩
  have C1 : Hid (∀ W, Below w1.heap.size w1 W → Calls Try.prog 187 #[.int .u64 x] W fun e w' => ∃ a' c', e = .returned (.slice a' NX c') ∧ OwnB w' w1.heap.size (.slice a' NX c') X ∧ Below w1.heap.size w1 w') := hid fun W h => ((shortR_is HX HNX (by omega)).mono fun e w' ⟨a', c', h1, h2, _, h4⟩ => ⟨a', c', h1, h2.mono h.size, h.trans (h4.mono h.size)⟩)
  have C2 : Hid (∀ W, Below w1.heap.size w1 W → Calls Try.prog 187 #[.int .u64 y] W fun e w' => ∃ a' c', e = .returned (.slice a' NY c') ∧ ByteRow w' a' Y ∧ Below W.heap.size W w' ∧ Below w1.heap.size w1 w') := hid fun W h => ((shortR_is HY HNY (by omega)).mono fun e w' ⟨a', c', h1, _, h3, h4⟩ => ⟨a', c', h1, h3, h4, h.trans (h4.mono h.size)⟩)
  clear hc0 hc1
  have ew1 : IntKind.u64.wrap ((x : Nat) : Int) = ((x : Nat) : Int) := by rw [IntKind.wrap_u64]; omega
  have ew2 : IntKind.u64.wrap ((y : Nat) : Int) = ((y : Nat) : Int) := by rw [IntKind.wrap_u64]; omega
  have EW1 := hid ew1
  go_enter Try.func108, Try.ntmps108
  go_wp2
  go_region_held3 (fun W => Below w1.heap.size w1 W ∧ W.cell? ⟨w.heap.size, 0, none⟩ = some (.int .u16 x) ∧ W.cell? ⟨w.heap.size, 1, none⟩ = some (.int .u32 y)) (first | exact HS.out _ H0 | exact HS.out _ (by assumption)) (first
    | ((go_at_call 187; (with_reducible refine (C1.out _ (by exact H0)).mono ?_); rintro e w11 ⟨a11, c11, rfl, hown11, hb11⟩))
    | ((go_at_call 187; (with_reducible refine (C2.out _ hb11).mono ?_); rintro e w12 ⟨a12, c12, rfl, hrow12, hbb12, hb12⟩))
    | ((refine step_appendB (by rfl) (hown11.ext hbb12) hrow12 HNY (by clear ew1 ew2; omega) hb12.size rfl rfl rfl ?_; intro v13 w13 hown13 hg13; have hb13 : Below w1.heap.size w1 w13 := below_of_grown hb12 hg13 (hown11.ext hbb12) hb12.size (Nat.le_refl _))))
  all_goals (
    clear ew1 ew2
    go_wp2
    go_ret
    exact ⟨_, rfl, hown13.mono hB.size, hB.trans (hb13.mono hB.size)⟩)
theorem ByteRow.cut {w : World} {a : Option Addr} {bs : List Nat} (h : ByteRow w a bs) {k c : Nat} (hc : bs.length ≤ c) : ByteRow w (if c = k then a else a.map (·.add (k * 1))) (bs.drop k) := by
  by_cases hk : k < bs.length
  · rw [if_neg (by omega)]
    rcases h with rfl | ⟨b, off, rfl, hb, hcell⟩
    · simp at hk
    · refine .inr ⟨b, off + k, by simp [addr_addB], hb, fun i hi => ?_⟩
      simp only [List.length_drop] at hi
      have := hcell (k + i) (by omega)
      rw [List.getElem_drop, show off + k + i = off + (k + i) by omega]
      exact this
  · rw [List.drop_eq_nil_of_le (by omega)]; exact .inl rfl
end Go.Proofs.Ytbpfhclcjedkcaa

namespace Go.Proofs.Ytbpfhclcjedkcaa
open Go.RowKit
def eqB : List Nat → List Nat → Bool
  | [], _ => true
  | _ :: _, [] => true
  | x :: l, y :: r => if x = y then eqB l r else false
theorem eqB_drop {xs ys : List Nat} {k : Nat} (h : k < xs.length) (h' : k < ys.length) {p q : Nat} (hp : p = xs[k]) (hq : q = ys[k]) : eqB (xs.drop k) (ys.drop k) = if p = q then eqB (xs.drop (k + 1)) (ys.drop (k + 1)) else false := by
  rw [List.drop_eq_getElem_cons h, List.drop_eq_getElem_cons h', ← hp, ← hq]; rfl
theorem eqB_iff : ∀ {xs ys : List Nat}, xs.length = ys.length → (eqB xs ys = true ↔ xs = ys)
  | [], [], _ => by simp [eqB]
  | x :: l, y :: r, h => by
    have ih := eqB_iff (xs := l) (ys := r) (by simpa using h)
    simp only [eqB]
    by_cases hxy : x = y
    · rw [if_pos hxy, ih]; simp [hxy]
    · rw [if_neg hxy]; simp [hxy]
  | [], y :: r, h => by simp at h
  | x :: l, [], h => by simp at h
theorem eqB_eq {xs ys : List Nat} (h : xs.length = ys.length) : decide (xs = ys) = eqB xs ys := by
  rw [Bool.eq_iff_iff, eqB_iff h]; simp
set_option maxRecDepth 100000 in
set_option maxHeartbeats 800000 in
theorem sameB_any {a b : Option Addr} {ca cb n m : Nat} {xs ys : List Nat} {w : World} (hn : Hid (xs.length = n)) (hm : Hid (ys.length = m)) (hnl : n ≤ 70368744177664) (hml : m ≤ 70368744177664) (hx : ByteRow w a xs) (hy : ByteRow w b ys) :
   Calls Try.prog 30 #[.slice a n ca, .slice b m cb] w fun e w' => e = .returned (.bool (decide (xs = ys))) ∧ Below w.heap.size w w' := by
  by_cases hl : n = m
  · have hsp := eqB_eq (xs := xs) (ys := ys) (by rw [hn.out, hm.out]; exact hl)
    subst hl
    have hl' : ((n : Int) != (n : Int)) = false := by simp
    have HSP := hid hsp
    clear hsp
    go_enter Try.func30, Try.ntmps30
    go_wp2
    go_loopw [4, 5] (fun rs kv wr => rs = .bool false ∧ ∃ k : Nat, k ≤ n ∧ kv = .int .i64 k ∧ Hid (decide (xs = ys) = eqB (xs.drop k) (ys.drop k)) ∧ Below w.heap.size w wr) (fun _ kv _ => n - (intOf kv).toNat)
    case atStart => exact ⟨rfl, 0, Nat.zero_le _, rfl, HSP, Below.refl _ _⟩
    case round =>
      obtain ⟨rfl, k, hk, rfl, ha, hb⟩ := hrel
      by_cases hkt : k < n
      · have hk1 : k < xs.length := by rw [hn.out]; exact hkt
        have hk2 : k < ys.length := by rw [hm.out]; exact hkt
        obtain ⟨b1, o1, x1, rfl, hx1, q0⟩ := hx.at hb rfl hk1
        obtain ⟨b2, o2, x2, rfl, hx2, q2⟩ := hy.at hb rfl hk2
        have hd := eqB_drop hk1 hk2 hx1 hx2
        have HD := hid hd
        clear hd hx1 hx2
        by_cases hxy : x1 = x2
        · have HXY := hid hxy
          have e1 : ((x1 : Int) != (x2 : Int)) = false := by simp [hxy]
          clear hxy
          go_wp2
          go_quiet (fail)
          go_wp2
          go_roundw
          case rel => exact ⟨rfl, k + 1, by omega, by go_num, (ha.out.trans (by rw [HD.out, if_pos HXY.out]) : _), below_drewN hb _⟩
          case measure => simp [intOf]; omega
        · have HXY : Hid (¬ x1 = x2) := hxy
          have e1 : ((x1 : Int) != (x2 : Int)) = true := by simp; omega
          clear hxy
          go_wp2
          go_quiet (fail)
          go_wp2
          go_ret
          exact ⟨ret_bool (by rw [ha.out, HD.out, if_neg HXY.out]), below_drewN hb _⟩
      · go_wp2
        go_ret
        exact ⟨ret_bool (by rw [ha.out, List.drop_eq_nil_of_le (by rw [hn.out]; omega)]; rfl), hb⟩
  · have hne : decide (xs = ys) = false := by simp; intro e; exact hl (by rw [← hn.out, ← hm.out, e])
    have hl' : ((n : Int) != (m : Int)) = true := by rw [bne_iff_ne]; omega
    have HN := hid hne
    clear hne hl
    go_enter Try.func30, Try.ntmps30
    go_wp2
    go_ret
    exact ⟨ret_bool HN.out.symm, Below.refl _ _⟩
theorem sameB_is {a b : Option Addr} {ca cb n m : Nat} {xs ys : List Nat} {w : World} {bm : Bool} (h : Hid (decide (xs = ys) = bm)) (hn : Hid (xs.length = n)) (hm : Hid (ys.length = m)) (hnl : n ≤ 70368744177664) (hml : m ≤ 70368744177664) (hx : ByteRow w a xs) (hy : ByteRow w b ys) :
   Calls Try.prog 30 #[.slice a n ca, .slice b m cb] w fun e w' => e = .returned (.bool bm) ∧ Below w.heap.size w w' := by
  have := sameB_any (ca := ca) (cb := cb) (w := w) hn hm hnl hml hx hy
  rw [h.out] at this; exact this
/-! ### lent bytes -/
/-- what a row in the making holds, as far as k -/
structure Fill (w : World) (g k : Nat) (F : List Nat) : Prop where
  cells : ∀ j (h : j < F.length), j < k → w.cell? ⟨g, j, none⟩ = some (.int .u8 (F[j] : Nat))
  there : ∀ j, j < F.length → (w.cell? ⟨g, j, none⟩).isSome = true
  fro : ∀ j, w.frozen? ⟨g, j, none⟩ = false
theorem Fill.step {w : World} {g k : Nat} {F : List Nat} (h : Fill w g k F) {x : Nat} (hk : k < F.length) (hx : x = F[k]) : Fill (w.setCell ⟨g, k, none⟩ (.int .u8 x)) g (k + 1) F := by
  refine ⟨fun j hj hjk => ?_, fun j hj => ?_, fun j => by simp [h.fro]⟩
  · by_cases e : j = k
    · subst e
      obtain ⟨v, hv⟩ := Option.isSome_iff_exists.1 (h.there j hj)
      rw [World.cell?_setCell_same _ _ _ hv, hx]
    · rw [World.cell?_setCell_other _ _ _ _ (by simp <;> omega)]
      exact h.cells j hj (by omega)
  · by_cases e : j = k
    · subst e
      obtain ⟨v, hv⟩ := Option.isSome_iff_exists.1 (h.there j hj)
      rw [World.cell?_setCell_same _ _ _ hv]; rfl
    · rw [World.cell?_setCell_other _ _ _ _ (by simp <;> omega)]
      exact h.there j hj
theorem Fill.made (w : World) (Z : Array Value) (F : List Nat) (h : F.length ≤ Z.size) : Fill (w.alloc (.cells Z 5)) w.heap.size 0 F := by
  refine ⟨fun j _ h => by omega, fun j hj => ?_, fun j => by simp⟩
  have : (w.alloc (.cells Z 5)).cell? ⟨w.heap.size, j, none⟩ = Z[j]? := by simp
  rw [this]; simp; omega
theorem Fill.row {w : World} {g k : Nat} {F : List Nat} (h : Fill w g k F) (hk : F.length ≤ k) (hg : g < w.heap.size) : ByteRow w (some ⟨g, 0, none⟩) F :=
  .inr ⟨g, 0, rfl, hg, fun i hi => by rw [Nat.zero_add]; exact h.cells i hi (by omega)⟩
end Go.Proofs.Ytbpfhclcjedkcaa

namespace Go.Proofs.Ytbpfhclcjedkcaa
open Go.RowKit
/-! ### the forms, and the readers, in plain words -/
def pidsF (l : List Pid) : List Nat := short l.length ++ l.flatMap pidF
def rankF (ms : List Pid) (p : Pid) : List Nat := short (atIx ms p).toNat
def placesF (ms l : List Pid) : List Nat := short l.length ++ l.flatMap (rankF ms)
def viewF (V : View) : List Nat := short V.id.toNat ++ (pidsF V.ms ++ (short V.ls.length ++ (V.ls.flatMap (placesF V.ms) ++ placesF V.ms V.ds)))
/-- what is left to read, and what stopped it -/
structure RS where
  b : List Nat
  e : Nat
def zeroV : View := ⟨0, [], [], []⟩
/-! ### what was laid is read as it was -/
theorem atIx_get {ms : List Pid} {p : Pid} (h : p ∈ ms) : 0 ≤ atIx ms p ∧ (atIx ms p).toNat < ms.length ∧ ms.getD (atIx ms p).toNat (0, 0) = p := by
  have key : ∀ (xs : List Pid) (k : Nat), p ∈ xs → ∃ j : Nat, j < xs.length ∧ atFrom p xs k = ((k + j : Nat) : Int) ∧ xs.getD j (0, 0) = p := by
    intro xs
    induction xs with
    | nil => intro k h; cases h
    | cons x r ih =>
      intro k h
      unfold atFrom
      by_cases hx : x = p
      · exact ⟨0, by simp, by rw [if_pos hx]; simp, by simpa using hx⟩
      · rw [if_neg hx]
        have hr : p ∈ r := by
          rcases List.mem_cons.1 h with h | h
          · exact absurd h.symm hx
          · exact h
        obtain ⟨j, h1, h2, h3⟩ := ih (k + 1) hr
        exact ⟨j + 1, by simpa using h1, by rw [h2]; congr 1; omega, by simpa using h3⟩
  obtain ⟨j, h1, h2, h3⟩ := key ms 0 h
  unfold atIx
  rw [h2]
  simp only [Nat.zero_add, Int.toNat_natCast]
  exact ⟨by omega, h1, h3⟩
/-- a view that may be, as far as its form needs it -/
structure Laid (V : View) : Prop where
  id0 : 0 ≤ V.id
  id1 : V.id ≤ 4611686018427387904
  wf : ∀ p ∈ V.ms, okP p
  lm : V.ms.length ≤ 24
  ll : V.ls.length ≤ 24
  le : ∀ l ∈ V.ls, (∀ p ∈ l, p ∈ V.ms) ∧ l.length ≤ 24
  ld : (∀ p ∈ V.ds, p ∈ V.ms) ∧ V.ds.length ≤ 24
end Go.Proofs.Ytbpfhclcjedkcaa

namespace Go.Proofs.Ytbpfhclcjedkcaa
open Go.RowKit
/-! ### commands and beats in plain words -/
instance : DecidableEq View := fun a b => by
  obtain ⟨a1, a2, a3, a4⟩ := a
  obtain ⟨b1, b2, b3, b4⟩ := b
  exact decidable_of_iff (a1 = b1 ∧ a2 = b2 ∧ a3 = b3 ∧ a4 = b4) (by simp)
structure CmdD where
  kind : Int
  fr : Pid
  num : Nat
  vw : Nat
  data : List Nat
  v : View
def mayP (p : Pid) : Bool := decide (p.1 < 16) && decide (0 < p.2)
def cntB (n : Nat) : Bool := decide (1 ≤ n) && decide (n ≤ 4611686018427387904)
/-- P9.1: 0: it may be -/
def cmdChk (c : CmdD) : Nat :=
  if c.kind = 1 then (if c.fr = (0, 0) ∧ c.num = 0 ∧ c.vw = 0 ∧ c.data = [] ∧ c.v = zeroV then 0 else 1)
  else if c.kind = 2 then (if mayP c.fr = true ∧ cntB c.num = true ∧ cntB c.vw = true ∧ c.v = zeroV then (if 200 < c.data.length then 14 else 0) else 1)
  else if c.kind = 3 then (if c.fr = (0, 0) ∧ c.num = 0 ∧ c.vw = 0 ∧ c.data = [] ∧ refCheckB c.v = true then 0 else 1)
  else 1
def cmdF (c : CmdD) : List Nat :=
  short c.kind.toNat ++ (if c.kind = 2 then pidF c.fr ++ (short c.num ++ (short c.vw ++ (short c.data.length ++ c.data))) else if c.kind = 3 then viewF c.v else [])
def zeroC : CmdD := ⟨0, (0, 0), 0, 0, [], zeroV⟩
end Go.Proofs.Ytbpfhclcjedkcaa

namespace Go.Proofs.Ytbpfhclcjedkcaa
open Go.RowKit

/-! ### bytes.Equal, cmd.counted, pid.May; a command in its box -/
def numsB (bs : List Nat) : List Int := bs.map fun b : Nat => Int.ofNat b
theorem bytesOf_inj : ∀ {xs ys : List Nat}, (∀ b ∈ xs, b < 256) → (∀ b ∈ ys, b < 256) → (Lib.bytesOf (numsB xs) = Lib.bytesOf (numsB ys) ↔ xs = ys)
  | [], [], _, _ => by simp
  | x :: xs, [], _, _ => by simp [Lib.bytesOf, numsB]
  | [], y :: ys, _, _ => by simp [Lib.bytesOf, numsB]
  | x :: xs, y :: ys, hx, hy => by
    have ih := bytesOf_inj (xs := xs) (ys := ys) (fun b hb => hx b (by simp [hb])) (fun b hb => hy b (by simp [hb]))
    have h1 := hx x (by simp)
    have h2 := hy y (by simp)
    have hu : UInt8.ofNat x = UInt8.ofNat y ↔ x = y := by
      constructor
      · intro h
        have := congrArg UInt8.toNat h
        simp at this
        omega
      · rintro rfl; rfl
    simp only [Lib.bytesOf, numsB, List.map_cons, List.cons.injEq, Int.toNat_natCast, Int.ofNat_eq_natCast] at ih ⊢
    rw [hu, ih]
theorem run_conv_byte {a : Option Addr} {c n : Nat} {xs : List Nat} {w : World} (hn : xs.length = n) (hx : ByteRow w a xs) :
    (convert 42 9 (.slice a n c)).run Try.prog w = .ok (.string (strOfNums (numsB xs))) w := by
  have hs : Try.prog.underlying 42 = some (.slice 5) := by kernel_rfl
  have he : Try.prog.underlying 5 = some (.int .u8) := by kernel_rfl
  have hd : Try.prog.underlying 9 = some .string := by kernel_rfl
  subst hn
  rcases hx with rfl | ⟨b, off, rfl, hlt, hc⟩
  · rw [show strOfNums (numsB []) = ByteArray.empty from rfl, List.length_nil]
    rw [run_convert_bytes_string w 42 9 5 _ 0 c hs he hd]
    cases a <;> simp [Conv.bytesToString, loadCells]
    all_goals rfl
  · exact run_convert_bytes_arg (P := Try.prog) w 42 5 hs he b off xs.length c (numsB xs) (by simp [numsB]) (fun i hi => by rw [hc i hi]; simp [numsB, List.getD, List.getElem?_eq_getElem hi]) 9 hd

set_option maxRecDepth 100000 in
set_option maxHeartbeats 800000 in
theorem bEqual_any {a b : Option Addr} {ca cb n m : Nat} {xs ys : List Nat} {w : World} (hn : Hid (xs.length = n)) (hm : Hid (ys.length = m)) (hbx : ∀ b ∈ xs, b < 256) (hby : ∀ b ∈ ys, b < 256) (hx : ByteRow w a xs) (hy : ByteRow w b ys) :
   Calls Try.prog 141 #[.slice a n ca, .slice b m cb] w fun e w' => e = .returned (.bool (decide (xs = ys))) ∧ w' = w := by
  have g1 := run_conv_byte (c := ca) hn.out hx
  have g2 := run_conv_byte (c := cb) hm.out hy
  have hr : ((strOfNums (numsB xs)).toList == (strOfNums (numsB ys)).toList) = decide (xs = ys) := by
    rw [Lib.strOfNums_toList, Lib.strOfNums_toList, Bool.eq_iff_iff]
    simp [bytesOf_inj hbx hby]
  have HR := hid hr
  clear hr hn hm hx hy hbx hby
  go_enter Try.func141, Try.ntmps141
  go_wp2
  go_ret
  exact ⟨ret_bool HR.out, rfl⟩
theorem bEqual_is {a b : Option Addr} {ca cb n m : Nat} {xs ys : List Nat} {w : World} {r : Bool} (h : Hid (decide (xs = ys) = r)) (hn : Hid (xs.length = n)) (hm : Hid (ys.length = m)) (hbx : ∀ b ∈ xs, b < 256) (hby : ∀ b ∈ ys, b < 256) (hx : ByteRow w a xs) (hy : ByteRow w b ys) :
   Calls Try.prog 141 #[.slice a n ca, .slice b m cb] w fun e w' => e = .returned (.bool r) ∧ w' = w := by
  have := bEqual_any (ca := ca) (cb := cb) (w := w) hn hm hbx hby hx hy
  rw [h.out] at this; exact this

set_option maxRecDepth 100000 in
set_option maxHeartbeats 800000 in
theorem counted_any (n : Nat) (w : World) : Calls Try.prog 186 #[.int .u64 n] w fun e w' => e = .returned (.bool (cntB n)) ∧ w' = w := by
  by_cases h1 : 1 ≤ n
  · have h1' : decide ((n : Int) ≥ 1) = true := by simp; omega
    have h1'' : decide ((1 : Int) ≤ n) = true := by simp; omega
    by_cases h2 : n ≤ 4611686018427387904
    · have h2' : decide ((n : Int) ≤ 4611686018427387904) = true := by simp; omega
      have HR : Hid (cntB n = true) := by unfold cntB Hid; simp [h1, h2]
      clear h1 h2
      go_enter Try.func186, Try.ntmps186
      go_wp2
      go_ret
      exact ⟨ret_bool HR.out.symm, rfl⟩
    · have h2' : decide ((n : Int) ≤ 4611686018427387904) = false := by simp; omega
      have HR : Hid (cntB n = false) := by unfold cntB Hid; simp [h1, h2]
      clear h1 h2
      go_enter Try.func186, Try.ntmps186
      go_wp2
      go_ret
      exact ⟨ret_bool HR.out.symm, rfl⟩
  · have h1' : decide ((n : Int) ≥ 1) = false := by simp; omega
    have h1'' : decide ((1 : Int) ≤ n) = false := by simp; omega
    have HR : Hid (cntB n = false) := by unfold cntB Hid; simp [h1]
    clear h1
    go_enter Try.func186, Try.ntmps186
    go_wp2
    go_ret
    exact ⟨ret_bool HR.out.symm, rfl⟩

set_option maxRecDepth 100000 in
set_option maxHeartbeats 800000 in
theorem mayP_any (x y : Int) (hy : 0 ≤ y) (w : World) : Calls Try.prog 105 #[.agg #[.int .u16 x, .int .u32 y]] w fun e w' => e = .returned (.bool (mayP (x, y))) ∧ Below w.heap.size w w' := by
  by_cases h1 : x < 16
  · have h1' : decide (x < 16) = true := by simpa using h1
    by_cases h2 : y = 0
    · have h2' : (y != 0) = false := by simp [h2]
      have HR : Hid (mayP (x, y) = false) := by unfold mayP Hid; simp [h1, h2]
      clear h1 h2 hy
      go_enter Try.func105, Try.ntmps105
      go_wp2
      go_ret
      exact ⟨ret_bool HR.out.symm, (Below.refl _ _).alloc (Nat.le_refl _) _⟩
    · have h2' : (y != 0) = true := by simp [h2]
      have HR : Hid (mayP (x, y) = true) := by unfold mayP Hid; simp [h1]; omega
      clear h1 h2 hy
      go_enter Try.func105, Try.ntmps105
      go_wp2
      go_ret
      exact ⟨ret_bool HR.out.symm, (Below.refl _ _).alloc (Nat.le_refl _) _⟩
  · have h1' : decide (x < 16) = false := by simpa using h1
    have HR : Hid (mayP (x, y) = false) := by unfold mayP Hid; simp [h1]
    clear h1 hy
    go_enter Try.func105, Try.ntmps105
    go_wp2
    go_ret
    exact ⟨ret_bool HR.out.symm, (Below.refl _ _).alloc (Nat.le_refl _) _⟩
end Go.Proofs.Ytbpfhclcjedkcaa

