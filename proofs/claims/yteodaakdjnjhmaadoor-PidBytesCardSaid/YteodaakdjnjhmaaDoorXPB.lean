import Derived.Test.YteodaakdjnjhmaaDoorX17
import Derived.Test.YteodaakdjnjhmaaDoorDA
import Derived.WalkLawsBesides
namespace Go.Proofs.YteodaakdjnjhmaaDoor
open Go.RowKit
theorem pidGet_iz {a : Option Addr} {c n : Nat} {bs : List Nat} {w : World} {x y : Int} {u e : Nat} (h : Hid (getP bs = ((x, y), u, e))) (hn : Hid (bs.length = n)) (hc : n ≤ c) (hl : n ≤ 70368744177664) (hby : ∀ b ∈ bs, b < 256) (hrow : ByteRow w a bs) :
    Calls Tryd.prog 7 #[.slice a n c] w fun e' w' => e' = .returned (.tuple #[.agg #[.int .u16 x, .int .u32 y], .int .i64 u, .int .i64 e]) ∧ Below w.heap.size w w' := by
  have := pidGet_any (w := w) hn hc hl hby hrow
  rw [h.out] at this; exact this
theorem pidGetR_iz {a : Option Addr} {c n : Nat} {bs : List Nat} {w : World} {x y : Int} {u e : Nat} (h : Hid (getP bs = ((x, y), u, e))) (hn : Hid (bs.length = n)) (hc : n ≤ c) (hl : n ≤ 70368744177664) (hby : ∀ b ∈ bs, b < 256) (hrow : ByteRow w a bs) :
    Calls Tryd.prog 8 #[.slice a n c] w fun e' w' => e' = .returned (.tuple #[.agg #[.int .u16 x, .int .u32 y], .int .i64 u, .int .i64 e]) ∧ Below w.heap.size w w' := by
  have := pidGetR_any (w := w) hn hc hl hby hrow
  rw [h.out] at this; exact this
theorem pidPut_iz {a : Option Addr} {c n N : Nat} {bs F : List Nat} {w : World} {x y : Nat} (hF : Hid (bs ++ (short x ++ short y) = F)) (hN : Hid (F.length = N)) (hn : Hid (bs.length = n)) (hl : n ≤ 137438953472) (hx : x < 65536) (hy : y < 4294967296) (hrow : ByteRow w a bs) :
    Calls Tryd.prog 6 #[.slice a n c, .agg #[.int .u16 x, .int .u32 y]] w fun e w' => ∃ a' c', e = .returned (.slice a' N c') ∧ ByteRow w' a' F ∧ Below w.heap.size w w' := by
  refine (pidPut_any (c := c) x y hn hl hx hy hrow).mono ?_
  rintro e w' ⟨v, rfl, hown, hb⟩
  rw [hF.out] at hown
  obtain ⟨a', c', rfl, hr, -⟩ := hown.row
  rw [hN.out]
  exact ⟨a', c', rfl, hr, hb⟩
theorem pidPutR_iz {w : World} {x y N : Nat} {F : List Nat} (hF : Hid (short x ++ short y = F)) (hN : Hid (F.length = N)) (hx : x < 65536) (hy : y < 4294967296) :
    Calls Tryd.prog 10 #[.agg #[.int .u16 x, .int .u32 y]] w fun e w' => ∃ a' c', e = .returned (.slice a' N c') ∧ ByteRow w' a' F ∧ Below w.heap.size w w' := by
  refine (pidPutR_any x y hx hy).mono ?_
  rintro e w' ⟨v, rfl, hown, hb⟩
  rw [hF.out] at hown
  obtain ⟨a', c', rfl, hr, -⟩ := hown.row
  rw [hN.out]
  exact ⟨a', c', rfl, hr, hb⟩
theorem OwnB.empty0 (w : World) : OwnB (w.alloc (.cells #[] 5)) w.heap.size (.slice (some ⟨w.heap.size, 0, none⟩) 0 0) [] := World.ownsRow_made (w := w) #[] 0 (Nat.le_refl _) (by unfold maxLen; omega) (by simp)
set_option maxRecDepth 100000 in
set_option maxHeartbeats 12800000 in
theorem pidBytes_law {a : Option Addr} {c n : Nat} {bs : List Nat} {w : World} (x y : Nat) (hn : Hid (bs.length = n)) (hc : n ≤ c) (hby : ∀ b ∈ bs, b < 256) (hrow : ByteRow w a bs) (hx : x < 65536) (hy : y < 4294967296) :
    Calls Tryd.prog 3 #[.slice a n c, .agg #[.int .u16 x, .int .u32 y]] w fun e w' => e = .returned (.bool true) ∧ Below w.heap.size w w' := by
  have hB1 : Below w.heap.size w (w.alloc (.cells #[.int .u16 x, .int .u32 y] 26)) := (Below.refl _ _).alloc (Nat.le_refl _) _
  have c0 : (w.alloc (.cells #[.int .u16 x, .int .u32 y] 26)).cell? ⟨w.heap.size, 0, none⟩ = some (.int .u16 x) := by simp
  have c1 : (w.alloc (.cells #[.int .u16 x, .int .u32 y] 26)).cell? ⟨w.heap.size, 1, none⟩ = some (.int .u32 y) := by simp
  have hr1 := hrow.ext hB1
  by_cases hbig : 2000 < n
  · have t1 : decide ((2000 : Int) < n) = true := by simp; omega
    have t2 : decide (2000 < n) = true := by simpa using hbig
    go_enter Tryd.func3, Tryd.ntmps3
    go_wp2_with (go_at_call 4; refine (awake_any _).mono ?_; rintro e w2 ⟨rfl, hb2⟩)
    go_ret
    exact ⟨rfl, hB1.trans (hb2.mono hB1.size)⟩
  · have t1 : decide ((2000 : Int) < n) = false := by simp; omega
    have t2 : decide (2000 < n) = false := by simpa using hbig
    have hl : n ≤ 70368744177664 := by omega
    obtain ⟨E, hE⟩ : ∃ E, bs ++ (short x ++ short y) = E := ⟨_, rfl⟩
    obtain ⟨NE, hNE⟩ : ∃ NE, E.length = NE := ⟨_, rfl⟩
    obtain ⟨F, hF⟩ : ∃ F, short x ++ short y = F := ⟨_, rfl⟩
    obtain ⟨NF, hNF⟩ : ∃ NF, F.length = NF := ⟨_, rfl⟩
    have hNFl : NF ≤ 20 := by
      have h1 := short_len10 (n := x) (by omega)
      have h2 := short_len10 (n := y) (by omega)
      rw [← hNF, ← hF, List.length_append]; omega
    have hEF : Hid (bs ++ F = E) := hid (by rw [← hF]; exact hE)
    have hNEl : NE ≤ 3000 := by rw [← hNE, ← hEF.out, List.length_append, hn.out, hNF]; omega
    obtain ⟨⟨⟨qx, qy⟩, u, e⟩, hG⟩ : ∃ q, getP bs = q := ⟨_, rfl⟩
    have HE := hid hE
    have HNE := hid hNE
    have HF := hid hF
    have HNF := hid hNF
    have HG := hid hG
    have HBY := hid hby
    have hlow : Hid (∀ W g, ByteRow W (some ⟨g, 0, none⟩) (lentL bs) → ByteRow W (some ⟨g, 0, none⟩) bs) := hid fun W g h => by
      have := h.upto n
      have e : (lentL bs).take n = bs := by unfold lentL; rw [← hn.out, List.take_left]
      rwa [e] at this
    clear hE hNE hF hNF hG hby
    have hee := fun w => eql_pid qx qy qx qy w
    simp only [decide_true] at hee
    go_enter Tryd.func3, Tryd.ntmps3
    go_wp2_with fail
    refine (lent_any hn (by omega) hr1).mono ?_
    rintro e2 w2 ⟨g, rfl, hg, hlent2, hb2⟩
    have d20 := cell_toB c0 hb2
    have d21 := cell_toB c1 hb2
    go_wp2_with fail
    refine (pidPut_iz HE HNE hn (by omega) hx hy (hlow.out _ _ hlent2)).mono ?_
    rintro e3 w3 ⟨a3, c3, rfl, hrow3, hb3⟩
    have hlent3 := hlent2.ext hb3
    go_wp2_with fail
    refine (pidGet_iz HG hn (by omega) hl HBY.out (hlow.out _ _ hlent3)).mono ?_
    rintro e4 w4 ⟨rfl, hb4⟩
    have hq4 := (Below.refl w4.heap.size w4).alloc (Nat.le_refl _) (.cells #[.int .u16 qx, .int .u32 qy] 26)
    have hb24 := (hb2.trans ((hb3.trans (hb4.mono hb3.size)).mono hb2.size))
    have hr5 := (hr1.ext hb24).ext hq4
    go_wp2_with fail
    refine (pidGetR_iz HG hn hc hl HBY.out hr5).mono ?_
    rintro e6 w6 ⟨rfl, hb6⟩
    go_wp2_with fail
    have hq6 := (Below.refl w6.heap.size w6).alloc (Nat.le_refl _) (.cells #[.int .u16 qx, .int .u32 qy] 26)
    have hb56 := hq4.trans ((hb6.trans (hq6.mono hb6.size)).mono hq4.size)
    have hb49 : Below w4.heap.size w4 (w6.alloc (.cells #[.int .u16 qx, .int .u32 qy] 26)) := hb56
    have hb39 := hb4.trans (hb49.mono hb4.size)
    have hb29 := hb3.trans (hb39.mono hb3.size)
    have hb19 := hb2.trans (hb29.mono hb2.size)
    have HB9 := hid (hB1.trans (hb19.mono hB1.size))
    have e0 := cell_toB c0 hb19
    have e1 := cell_toB c1 hb19
    have e2 : (w6.alloc (.cells #[.int .u16 qx, .int .u32 qy] 26)).cell? ⟨w4.heap.size, 0, none⟩ = some (.int .u16 qx) := cell_toB (show (w4.alloc (.cells #[.int .u16 qx, .int .u32 qy] 26)).cell? ⟨w4.heap.size, 0, none⟩ = some (.int .u16 qx) by simp) (hb6.trans (hq6.mono hb6.size))
    have e3 : (w6.alloc (.cells #[.int .u16 qx, .int .u32 qy] 26)).cell? ⟨w4.heap.size, 1, none⟩ = some (.int .u32 qy) := cell_toB (show (w4.alloc (.cells #[.int .u16 qx, .int .u32 qy] 26)).cell? ⟨w4.heap.size, 1, none⟩ = some (.int .u32 qy) by simp) (hb6.trans (hq6.mono hb6.size))
    have e4 : (w6.alloc (.cells #[.int .u16 qx, .int .u32 qy] 26)).cell? ⟨w6.heap.size, 0, none⟩ = some (.int .u16 qx) := by simp
    have e5 : (w6.alloc (.cells #[.int .u16 qx, .int .u32 qy] 26)).cell? ⟨w6.heap.size, 1, none⟩ = some (.int .u32 qy) := by simp
    have R0 := hr1.ext hb19
    have R3 := hrow3.ext hb39
    have RG := hlent3.ext hb39
    clear c0 c1 d20 d21 hr1 hlent2 hlent3 hrow3 hq4 hb24 hr5 hq6 hb56 hb49 hb39 hb29 hb19 hb2 hb3 hb4 hb6 hB1 hrow
    generalize (w6.alloc (.cells #[.int .u16 qx, .int .u32 qy] 26)) = w9 at HB9 e0 e1 e2 e3 e4 e5 R0 R3 RG ⊢
    generalize w4.heap.size = g7 at e2 e3 ⊢
    generalize w6.heap.size = g10 at e4 e5 ⊢
    have HS : Hid (∀ W, Below w9.heap.size w9 W → Below w9.heap.size w9 W ∧ W.cell? ⟨w.heap.size, 0, none⟩ = some (.int .u16 x) ∧ W.cell? ⟨w.heap.size, 1, none⟩ = some (.int .u32 y) ∧ W.cell? ⟨g7, 0, none⟩ = some (.int .u16 qx) ∧ W.cell? ⟨g7, 1, none⟩ = some (.int .u32 qy) ∧ W.cell? ⟨g10, 0, none⟩ = some (.int .u16 qx) ∧ W.cell? ⟨g10, 1, none⟩ = some (.int .u32 qy)) := hid fun W h => ⟨h, cell_toB e0 h, cell_toB e1 h, cell_toB e2 h, cell_toB e3 h, cell_toB e4 h, cell_toB e5 h⟩
    have C10 : Hid (∀ W, Below w9.heap.size w9 W → Calls Tryd.prog 10 #[.agg #[.int .u16 x, .int .u32 y]] W fun e w' => ∃ a' c', e = .returned (.slice a' NF c') ∧ ByteRow w' a' F ∧ Below W.heap.size W w' ∧ Below w9.heap.size w9 w') := hid fun W h => ((pidPutR_iz HF HNF hx hy).mono fun e w' ⟨a', c', h1, h2, h3⟩ => ⟨a', c', h1, h2, h3, h.trans (h3.mono h.size)⟩)
    have C9 : Hid (∀ W b d, Below w9.heap.size w9 W → ByteRow W b E → Calls Tryd.prog 9 #[.slice a3 NE c3, .slice b E.length d] W fun e w' => e = .returned (.bool true) ∧ Below w9.heap.size w9 w') := hid fun W b d h hr => relB h (sameB_is (bm := true) (hid (by simp)) HNE (hid rfl) (by omega) (by rw [HNE.out]; omega) (R3.ext h) hr)
    have C11 : Hid (∀ W, Below w9.heap.size w9 W → Calls Tryd.prog 11 #[.slice (some ⟨g, 0, none⟩) n (n + 8), .slice a n c] W fun e w' => e = .returned (.bool true) ∧ Below w9.heap.size w9 w') := hid fun W h => relB h (kept_any hn (by omega) (RG.ext h) (R0.ext h))
    have C4 : Hid (∀ W, Below w9.heap.size w9 W → Calls Tryd.prog 4 #[] W fun e w' => e = .returned (.bool true) ∧ Below w9.heap.size w9 w') := hid fun W h => relB h (awake_any W)
    have H0 : Below w9.heap.size w9 w9.drew := (Below.refl _ _).drew
    have H1 : Below w9.heap.size w9 (w9.drew.alloc (.cells #[] 5)) := H0.alloc (Nat.le_refl _) _
    have H1' : Below w9.heap.size w9 ((w9.alloc (.cells #[] 5)).drew) := ((Below.refl _ _).alloc (Nat.le_refl _) _).drew
    have O1 : OwnB ((w9.alloc (.cells #[] 5)).drew) w9.heap.size (.slice (some ⟨w9.heap.size, 0, none⟩) 0 0) [] := (OwnB.empty0 w9).ext (Below.refl _ _).drew
    have HR0 : Hid (∀ W, Below w9.heap.size w9 W → ByteRow W a bs) := hid fun W h => R0.ext h
    have HO1 := hid O1
    have hEF2 : Hid (([] ++ bs) ++ F = E) := hid (by rw [List.nil_append]; exact hEF.out)
    clear e0 e1 e2 e3 e4 e5 R0 R3 RG O1
    go_region_held3 (fun W => Below w9.heap.size w9 W ∧ W.cell? ⟨w.heap.size, 0, none⟩ = some (.int .u16 x) ∧ W.cell? ⟨w.heap.size, 1, none⟩ = some (.int .u32 y) ∧ W.cell? ⟨g7, 0, none⟩ = some (.int .u16 qx) ∧ W.cell? ⟨g7, 1, none⟩ = some (.int .u32 qy) ∧ W.cell? ⟨g10, 0, none⟩ = some (.int .u16 qx) ∧ W.cell? ⟨g10, 1, none⟩ = some (.int .u32 qy)) (first | exact HS.out _ H0 | exact HS.out _ H1 | exact HS.out _ H1' | exact HS.out _ (by assumption)) (first
      | ((refine step_appendB (by rfl) HO1.out (HR0.out _ H1') hn (by simp; omega) (by simp) rfl rfl rfl ?_; intro v12 w12 hown12 hg12; have hb12 : Below w9.heap.size w9 w12 := below_of_grown H1' hg12 HO1.out (by simp) (Nat.le_refl _)))
      | ((go_at_call 10; refine (C10.out _ hb12).mono ?_; rintro e w13 ⟨a13, c13, rfl, hrow13, hbb13, hb13⟩))
      | ((refine step_appendB (by rfl) (hown12.ext hbb13) hrow13 HNF (by simp [hn.out]; omega) hb13.size rfl rfl rfl ?_; intro v14 w14 hown14 hg14; have hb14 : Below w9.heap.size w9 w14 := below_of_grown hb13 hg14 (hown12.ext hbb13) hb13.size (Nat.le_refl _); rw [hEF2.out] at hown14; obtain ⟨a14, c14, he14, hr14, -⟩ := hown14.row; subst he14))
      | ((go_at_call 9; refine (C9.out _ _ _ hb14 hr14).mono ?_; rintro e w15 ⟨rfl, hb15⟩))
      | ((go_at_call 11; refine (C11.out _ hb15).mono ?_; rintro e w16 ⟨rfl, hb16⟩))
      | ((go_at_call 4; refine (C4.out _ hb16).mono ?_; rintro e w17 ⟨rfl, hb17⟩)))
    go_wp2
    go_ret
    exact ⟨rfl, HB9.out.trans (hb17.mono HB9.out.size)⟩
end Go.Proofs.YteodaakdjnjhmaaDoor
