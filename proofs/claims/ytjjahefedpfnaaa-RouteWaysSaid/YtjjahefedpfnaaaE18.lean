import Derived.Test.YtjjahefedpfnaaaE17
namespace Go.Proofs.Ytjjahefedpfnaaa
open Go.RowKit
def rightB (V : View) : Bool := !greatB V && refCheckB V
theorem right_small {V : View} (hw : WfView V) (h : rightB V = true) : Small V ∧ GoodV V := by
  unfold rightB at h
  simp only [Bool.and_eq_true, Bool.not_eq_true'] at h
  have g := good_of_check h.2
  exact ⟨⟨hw, fun l hl => by have := g.le l hl; omega, by have := g.ld; omega, by have := g.len; omega, by have := g.llen; omega⟩, g⟩
set_option maxRecDepth 100000 in
set_option maxHeartbeats 800000 in
theorem right_any (V : View) (am al ad : Option Addr) (cm cl cd : Nat) (w : World) (hV : ViewR w am al ad V) :
    Calls Try.prog 45 #[viewV V am al ad cm cl cd] w fun e w' => e = .returned (.bool (rightB V)) ∧ Below w.heap.size w w' := by
  have hB1 : Below w.heap.size w (w.alloc (.cells (vcells V am al ad cm cl cd) 68)) := (Below.refl _ _).alloc (Nat.le_refl _) _
  have hV1 := hV.ext hB1
  cases hg : greatB V
  · have hsum : lens V.ls ≤ 549755813888 := by have := (great_no hg).2.2.2.2; omega
    obtain ⟨b, hb⟩ : ∃ b, refCheckB V = b := ⟨_, rfl⟩
    have HR : Hid (rightB V = b) := hid (by unfold rightB; rw [hg, hb]; rfl)
    have HG := hid hg
    have HC := hid hb
    clear hg hb
    go_enter Try.func45, Try.ntmps45
    go_wp2_with (first
      | (go_at_call 70; refine (great_is HG hV1).mono ?_; rintro e w2 ⟨rfl, hb2⟩; obtain ⟨a0, a1, a2, a3⟩ := (ViewBox.made (V := V) (am := am) (al := al) (ad := ad) (cm := cm) (cl := cl) (cd := cd) w).ext hb2 (by simp))
      | (go_at_call 71; refine (refCheck_is HC (hV1.ext hb2) hsum).mono ?_; rintro e w3 ⟨rfl, hb3⟩))
    go_ret
    exact ⟨by rw [HR.out]; rfl, (hB1.trans (hb2.mono hB1.size)).trans (hb3.mono (by have := hb2.size; have := hB1.size; omega))⟩
  · have HR : Hid (rightB V = false) := hid (by unfold rightB; rw [hg]; rfl)
    have HG := hid hg
    clear hg
    go_enter Try.func45, Try.ntmps45
    go_wp2_with (go_at_call 70; refine (great_is HG hV1).mono ?_; rintro e w2 ⟨rfl, hb2⟩)
    go_ret
    exact ⟨by rw [HR.out]; rfl, hB1.trans (hb2.mono hB1.size)⟩
theorem right_is {V : View} {am al ad : Option Addr} {cm cl cd : Nat} {w : World} {b : Bool} (h : Hid (rightB V = b)) (hV : ViewR w am al ad V) :
    Calls Try.prog 45 #[viewV V am al ad cm cl cd] w fun e w' => e = .returned (.bool b) ∧ Below w.heap.size w w' := by
  have := right_any V am al ad cm cl cd w hV
  rw [h.out] at this; exact this
/-- a view and a rumor, boxed -/
structure Frr (w : World) (n : Nat) (V : View) (am al ad : Option Addr) (cm cl cd : Nat) (r : Nat → Int) : Prop where
  vb : ViewBox w n V am al ad cm cl cd
  rb : RumBox w (n + 1) r
  lt : n + 1 < w.heap.size
theorem Frr.ext {w w' : World} {n : Nat} {V : View} {am al ad : Option Addr} {cm cl cd : Nat} {r : Nat → Int} (h : Frr w n V am al ad cm cl cd r) (hb : Below w.heap.size w w') : Frr w' n V am al ad cm cl cd r :=
  ⟨h.vb.ext hb h.vb.lt, h.rb.ext hb h.lt, by have := h.lt; have := hb.size; omega⟩
theorem Frr.made (w : World) (V : View) (am al ad : Option Addr) (cm cl cd : Nat) (r : Nat → Int) : Frr ((w.alloc (.cells (vcells V am al ad cm cl cd) 68)).alloc (.cells (RL r).toArray 70)) w.heap.size V am al ad cm cl cd r := by
  have hR := RumBox.madeV (w.alloc (.cells (vcells V am al ad cm cl cd) 68)) r
  simp only [World.size_alloc] at hR
  exact ⟨(ViewBox.made (V := V) (am := am) (al := al) (ad := ad) (cm := cm) (cl := cl) (cd := cd) w).ext (B := w.heap.size + 1) ((Below.refl _ _).alloc (by simp) (.cells (RL r).toArray 70)) (by omega), hR, by simp⟩
theorem up_some {r : Nat → Int} {V : View} {am al ad : Option Addr} {cm cl cd : Nat} {x y u v : Int} {w : World} (h : Hid (upP V (hasRu r) (x, y) = some (u, v))) (hV : ViewR w am al ad V) (hf : Fine V) :
    Calls Try.prog 48 #[viewV V am al ad cm cl cd, .agg (RL r).toArray, .agg #[.int .u16 x, .int .u32 y]] w fun e w' => e = .returned (.tuple #[.agg #[.int .u16 u, .int .u32 v], .bool true]) ∧ Below w.heap.size w w' := by
  have := up_any r V am al ad cm cl cd x y w hV hf
  rw [h.out] at this; exact this
end Go.Proofs.Ytjjahefedpfnaaa
