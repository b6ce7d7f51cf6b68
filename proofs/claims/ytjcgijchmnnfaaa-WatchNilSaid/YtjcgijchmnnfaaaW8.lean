import Derived.Test.YtjcgijchmnnfaaaW7
namespace Go.Proofs.Ytjcgijchmnnfaaa
open Go.RowKit

theorem PidRow.one (w : World) (x y : Int) : PidRow (w.alloc (.cells #[.int .u16 x, .int .u32 y] 36)) (some ⟨w.heap.size, 0, none⟩) [(x, y)] :=
  .inr ⟨_, 0, rfl, by simp, fun i hi => by
    have : i = 0 := by simpa using hi
    subst this
    exact ⟨by simp, by simp⟩⟩
theorem PidRow.drew {w : World} {a : Option Addr} {xs : List Pid} (h : PidRow w a xs) : PidRow w.drew a xs := h.ext (Below.refl _ _).drew

def chkFrom (S : List (Pid × Int)) (K : List Pid → Nat → Bool) : List Pid → Nat → List (List Pid) → Bool
  | F, n, [] => K F n
  | F, n, l :: r => match l with
    | [] => false
    | p :: _ => if risFrom S (-1) l then chkFrom S K (F ++ [p]) (n + l.length) r else false
def chkEnd (V : View) (F : List Pid) (n : Nat) : Bool :=
  decide (n = V.ms.length) && (decide ((unionL [] V.ls.flatten).length = n) && (risFrom (ranksL V.ms) (-1) F && (decide (V.ds ≠ []) && risFrom (ranksL V.ms) (-1) V.ds)))
/-- view.Check, as data -/
def checkB (V : View) : Bool :=
  decide (1 ≤ V.id) && (decide (V.id ≤ 4611686018427387904) && (membersB V.ms && chkFrom (ranksL V.ms) (chkEnd V) [] 0 V.ls))
def errB (b : Bool) : Int := if b then 0 else 1
theorem chkFrom_nil {S : List (Pid × Int)} {K : List Pid → Nat → Bool} {F : List Pid} {n : Nat} {ls : List (List Pid)} {k : Nat} (h : k < ls.length) (h0 : ls[k] = []) : chkFrom S K F n (ls.drop k) = false := by
  rw [List.drop_eq_getElem_cons h, h0]; rfl
theorem chkFrom_cons {S : List (Pid × Int)} {K : List Pid → Nat → Bool} {F : List Pid} {n : Nat} {ls : List (List Pid)} {k : Nat} (h : k < ls.length) {l : List Pid} (hl : l = ls[k]) {p : Pid} (hp : l.head? = some p) :
    chkFrom S K F n (ls.drop k) = if risFrom S (-1) l then chkFrom S K (F ++ [p]) (n + l.length) (ls.drop (k + 1)) else false := by
  rw [List.drop_eq_getElem_cons h, ← hl]
  cases l with
  | nil => simp at hp
  | cons q r => simp at hp; subst hp; rfl
theorem rising_is {r : Nat} {S : List (Pid × Int)} {a : Option Addr} {c : Nat} {xs : List Pid} {w : World} {bm : Bool} (h : Hid (risFrom S (-1) xs = bm)) (hn : xs.length ≤ 70368744177664) (hrow : PidRow w a xs) (hM0 : MapIs w r pidV eI S) :
   Calls Try.prog 62 #[.map (some r), .slice a xs.length c] w fun e w' => e = .returned (.bool bm) ∧ Below w.heap.size w w' := by
  have := rising_any r S a c xs w hn hrow hM0
  rw [h.out] at this
  exact this
theorem concat_is {a : Option Addr} {c : Nat} {ls : List (List Pid)} {w : World} {fl : List Pid} (h : Hid (ls.flatten = fl)) (hn : ls.length ≤ 70368744177664) (hl : lens ls ≤ 549755813888) (hrow : LeafRow w a ls) :
   Calls Try.prog 64 #[.slice a ls.length c] w fun e w' => ∃ a3 c3, e = .returned (.slice a3 fl.length c3) ∧ PidRow w' a3 fl ∧ Below w.heap.size w w' := by
  refine (concat_any a c ls w hn hl hrow).mono ?_
  rintro e w' ⟨v, rfl, hown, hb⟩
  rw [h.out] at hown
  obtain ⟨a3, c3, rfl, hr, _⟩ := hown.row
  exact ⟨a3, c3, rfl, hr, hb⟩
theorem members_is {a : Option Addr} {c : Nat} {xs : List Pid} {w : World} {bm : Bool} (h : Hid (membersB xs = bm)) (hn : xs.length ≤ 70368744177664) (hrow : PidRow w a xs) :
   Calls Try.prog 60 #[.slice a xs.length c] w fun e w' => e = .returned (.bool bm) ∧ Below w.heap.size w w' := by
  have := members_any a c xs w hn hrow
  rw [h.out] at this
  exact this

theorem checkB_1 {V : View} (h : ¬ 1 ≤ V.id) : checkB V = false := by
  unfold checkB; rw [decide_eq_false h, Bool.false_and]
theorem checkB_2 {V : View} (h : ¬ V.id ≤ 4611686018427387904) : checkB V = false := by
  unfold checkB; rw [decide_eq_false h, Bool.false_and, Bool.and_false]
theorem checkB_3 {V : View} (h : membersB V.ms = false) : checkB V = false := by
  unfold checkB; rw [h, Bool.false_and, Bool.and_false, Bool.and_false]
theorem checkB_4 {V : View} (h1 : 1 ≤ V.id) (h2 : V.id ≤ 4611686018427387904) (h : membersB V.ms = true) : checkB V = chkFrom (ranksL V.ms) (chkEnd V) [] 0 V.ls := by
  unfold checkB; rw [decide_eq_true h1, decide_eq_true h2, h, Bool.true_and, Bool.true_and, Bool.true_and]
abbrev viewV (V : View) (am al ad : Option Addr) (cm cl cd : Nat) : Value := .agg #[.int .u64 V.id, .slice am V.ms.length cm, .slice al V.ls.length cl, .slice ad V.ds.length cd]
/-- a view in a box of its own -/
structure ViewBox (w : World) (b : Nat) (V : View) (am al ad : Option Addr) (cm cl cd : Nat) : Prop where
  c0 : w.cell? ⟨b, 0, none⟩ = some (.int .u64 V.id)
  c1 : w.cell? ⟨b, 1, none⟩ = some (.slice am V.ms.length cm)
  c2 : w.cell? ⟨b, 2, none⟩ = some (.slice al V.ls.length cl)
  c3 : w.cell? ⟨b, 3, none⟩ = some (.slice ad V.ds.length cd)
section
variable {w w' : World} {b : Nat} {V : View} {am al ad : Option Addr} {cm cl cd : Nat}
theorem ViewBox.lt (h : ViewBox w b V am al ad cm cl cd) : b < w.heap.size := World.block_lt_of_cell? w _ h.c0
theorem ViewBox.ext (h : ViewBox w b V am al ad cm cl cd) {B : Nat} (hb : Below B w w') (hB : b < B) : ViewBox w' b V am al ad cm cl cd :=
  ⟨by rw [hb.cell (by exact hB)]; exact h.c0, by rw [hb.cell (by exact hB)]; exact h.c1, by rw [hb.cell (by exact hB)]; exact h.c2, by rw [hb.cell (by exact hB)]; exact h.c3⟩
theorem ViewBox.made (w : World) : ViewBox (w.alloc (.cells #[.int .u64 V.id, .slice am V.ms.length cm, .slice al V.ls.length cl, .slice ad V.ds.length cd] 26)) w.heap.size V am al ad cm cl cd :=
  ⟨by simp, by simp, by simp, by simp⟩
end
theorem ViewR.of (w : World) {am al ad : Option Addr} {V : View} (h : ViewR w am al ad V) (o : Obj) : ViewR (w.alloc o) am al ad V := h.ext ((Below.refl _ _).alloc (Nat.le_refl _) _)

set_option maxRecDepth 100000 in
set_option maxHeartbeats 6000000 in
theorem check_any (V : View) (am al ad : Option Addr) (cm cl cd : Nat) (w : World) (hV : ViewR w am al ad V) (hsum : lens V.ls ≤ 549755813888) :
   Calls Try.prog 14 #[.agg #[.int .u64 V.id, .slice am V.ms.length cm, .slice al V.ls.length cl, .slice ad V.ds.length cd]] w fun e w' => e = .returned (.int .i64 (errB (checkB V))) ∧ Below w.heap.size w w' := by
  have hBx : Below w.heap.size w (w.alloc (.cells #[.int .u64 V.id, .slice am V.ms.length cm, .slice al V.ls.length cl, .slice ad V.ds.length cd] 26)) := (Below.refl _ _).alloc (Nat.le_refl _) _
  have hVx := hV.ext hBx
  have hbx : ViewBox _ _ V am al ad cm cl cd := ViewBox.made w
  by_cases h1 : 1 ≤ V.id
  · by_cases h2 : V.id ≤ 4611686018427387904
    · cases hm : membersB V.ms
      · have HM := hid hm
        clear hm
        go_enter Try.func14, Try.ntmps14
        go_wp2_with (go_at_call 60; refine (members_is HM hV.lm hVx.ms).mono ?_; rintro e w1 ⟨rfl, hb1⟩; obtain ⟨hc1, hf1⟩ := bcell hb1)
        go_ret
        exact ⟨ret_int (by rw [checkB_3 HM.out]; rfl), hBx.trans (hb1.mono hBx.size)⟩
      · have HM := hid hm
        have hspec := hid (checkB_4 h1 h2 hm)
        clear hm
        go_enter Try.func14, Try.ntmps14
        go_wp2_with (first
          | (go_at_call 60; refine (members_is HM hV.lm hVx.ms).mono ?_; rintro e w1 ⟨rfl, hb1⟩; obtain ⟨b0, b1, b2, b3⟩ := hbx.ext hb1 (by simp))
          | (go_at_call 61; refine (ranks_any V _ _ _ _ _ _ _ (hVx.ext hb1)).mono ?_; rintro e w2 ⟨r, rfl, hr, hb2, hM2⟩; obtain ⟨d0, d1, d2, d3⟩ := (hbx.ext hb1 (by simp)).ext hb2 (by have := hb1.size; simp at this; omega)))
        have hz1 := hb1.size
        have hz2 := hb2.size
        simp at hz1
        have hV2 := (hVx.ext hb1).ext hb2
        have hbx2 : ViewBox w2 w.heap.size V am al ad cm cl cd := ⟨d0, d1, d2, d3⟩
        have hB2 : Below w.heap.size w w2 := (hBx.trans (hb1.mono hBx.size)).trans (hb2.mono (by omega))
        have hrl := hM2.lt
        clear hb1 hb2 b0 b1 b2 b3 hr hVx hbx hBx hV
        go_loopw [2, 4, 5, 27] (fun rs v n i wr => rs = .int .i64 0 ∧ ∃ (k : Nat) (F : List Pid) (m : Nat), k ≤ V.ls.length ∧ i = .int .i64 k ∧ n = .int .i64 m ∧ m = lens (V.ls.take k) ∧ F.length ≤ m ∧ Hid (checkB V = chkFrom (ranksL V.ms) (chkEnd V) F m (V.ls.drop k)) ∧ OwnP wr w2.heap.size v F ∧ Below w2.heap.size w2 wr) (fun _ _ _ i _ => V.ls.length - (intOf i).toNat)
        case atStart => exact ⟨rfl, 0, [], 0, Nat.zero_le _, rfl, rfl, by simp [lens], by simp, hspec, OwnP.nil _ _, Below.refl _ _⟩
        case round =>
          obtain ⟨rfl, k, F, m, hk, rfl, rfl, hm, hF, hsp, hown, hb⟩ := hrel
          have hbxr := hbx2.ext hb hbx2.lt
          obtain ⟨e0, e1, e2, e3⟩ := hbxr
          have hVr := hV2.ext hb
          have hMr := hM2.ext hb
          have hBr : Below w.heap.size w wr := hB2.trans (hb.mono hB2.size)
          have hzr := hb.size
          have hll2 := hV2.ll
          by_cases hlt : k < V.ls.length
          · obtain ⟨b, off, ai, ci, l, rfl, hx, f1, f2⟩ := hVr.ls.at (Below.refl _ _) rfl hlt
            have hll : l.length ≤ 70368744177664 := hV2.le l (by rw [hx]; exact List.getElem_mem _)
            have hs := lens_take_succ hlt
            rw [← hx] at hs
            have hle' := lens_take_le V.ls (k + 1)
            rcases hl : l with _ | ⟨p, l'⟩
            · have h0 : ((l.length : Int) == 0) = true := by rw [hl]; rfl
              have hnil := chkFrom_nil (S := ranksL V.ms) (K := chkEnd V) (F := F) (n := m) hlt (by rw [← hx, hl])
              have HN := hid hnil
              clear hnil hl hx hs hm
              go_wp2
              go_ret
              exact ⟨ret_int (by rw [hsp.out, HN.out]; rfl), hBr⟩
            · have hpos : 0 < l.length := by rw [hl]; simp
              have h0 : ((l.length : Int) == 0) = false := by rw [beq_eq_false_iff_ne]; omega
              have hcons := chkFrom_cons (S := ranksL V.ms) (K := chkEnd V) (F := F) (n := m) hlt hx (p := p) (by rw [hl]; rfl)
              have HC := hid hcons
              have hp0 : l[0]'hpos = p := by simp [hl]
              have HP := hid hp0
              have HX := hid hx
              have hml : m + l.length = lens (V.ls.take (k + 1)) := by omega
              have HML := hid hml
              have hmb : m + l.length ≤ 549755813888 := by omega
              clear hcons hl hx hs hm hml hp0
              cases hr0 : risFrom (ranksL V.ms) (-1) l
              · have HR := hid hr0
                clear hr0
                go_wp2_with (go_at_call 62; refine (rising_is HR hll f2 hMr).mono ?_; rintro e w3 ⟨rfl, hb3⟩)
                go_ret
                exact ⟨ret_int (by rw [hsp.out, HC.out, HR.out]; rfl), hBr.trans (hb3.mono hBr.size)⟩
              · have HR := hid hr0
                clear hr0
                obtain ⟨pb, po, px, py, rfl, hpx, g1, g2⟩ := f2.at (Below.refl _ _) rfl hpos
                rw [Nat.zero_mul, Nat.add_zero] at g1 g2
                have hpl : pb < wr.heap.size := World.block_lt_of_cell? wr _ g1
                have HPX := hid hpx
                clear hpx
                go_wp2_with (first
                  | (go_at_call 62; refine (rising_is HR hll f2 hMr).mono ?_; rintro e w3 ⟨rfl, hb3⟩; obtain ⟨hc3, hf3⟩ := bcell hb3)
                  | (at_builtin; refine wpList_appendP ((hown.ext hb3).ext ((Below.refl _ _).alloc (Nat.le_refl _) _)) (PidRow.one _ px py) ?cb ?cz rfl rfl rfl rfl ?_; rotate_right; intro v4 w4 hown4 hg4 hnil4))
                case cb => simp; omega
                case cz => have := hb3.size; simp; omega
                have hz3 := hb3.size
                have hb34 : Below w2.heap.size w2 w4 := ((hb.trans (hb3.mono hzr)).alloc (by omega) _).grown hg4 (by simp; omega) (fun g hg => (World.ownsRow.lt hown g hg).1)
                have hpp : (px, py) = p := by rw [HPX.out, HP.out]
                go_roundw
                case rel => exact ⟨rfl, k + 1, F ++ [p], m + l.length, by omega, by go_num, by go_num, HML.out, by simp; omega, hsp.out.trans (by rw [HC.out, HR.out]; rfl), by rw [← hpp]; exact hown4, hb34⟩
                case measure => simp [intOf]; omega
          · have hml : m = lens V.ls := by rw [hm]; exact lens_take_all (by omega)
            have hsp2 : Hid (checkB V = chkEnd V F m) := by
              have := hsp.out
              rw [List.drop_eq_nil_of_le (by omega)] at this
              exact this
            have hmb : m ≤ 549755813888 := by omega
            have hfl := lens_flatten V.ls
            have hFb : F.length ≤ 70368744177664 := by omega
            obtain ⟨fl, hfl0⟩ : ∃ fl, V.ls.flatten = fl := ⟨_, rfl⟩
            rw [hfl0] at hfl
            have hfb : fl.length ≤ 70368744177664 := by omega
            have HFL := hid hfl0
            clear hfl0
            have hlm := hV2.lm
            have hld := hV2.ld
            obtain ⟨aF, cF, rfl, hrowF, _⟩ := hown.row
            clear hm hml hfl
            by_cases hA : m = V.ms.length
            · have hA' : ((m : Int) != (V.ms.length : Int)) = false := by rw [hA]; simp
              have HA := hid hA
              clear hA
              by_cases hU : (unionL [] fl).length = m
              · have hU' : (((unionL [] fl).length : Int) != (m : Int)) = false := by rw [hU]; simp
                have HU := hid hU
                clear hU
                cases hr1 : risFrom (ranksL V.ms) (-1) F
                · have HR1 := hid hr1
                  clear hr1
                  go_wp2_with (first
                    | (go_at_call 64; refine (concat_is HFL hll2 hsum hVr.ls).mono ?_; rintro e w3 ⟨a3, c3, rfl, hrow3, hb3⟩; obtain ⟨b0, b1, b2, b3⟩ := (ViewBox.mk e0 e1 e2 e3).ext hb3 (by omega))
                    | (go_at_call 63; refine (new_any _ _ _ _ hfb hrow3).mono ?_; rintro e w4 ⟨s4, r4, rfl, hs4, hr4, hS4, hb4⟩)
                    | (go_at_call 49; refine (len_any _ _ _ _ hS4).mono ?_; rintro e w5 ⟨rfl, rfl⟩)
                    | (go_at_call 62; refine (rising_is HR1 hFb ((hrowF.ext hb3).ext hb4) ((hMr.ext hb3).ext hb4)).mono ?_; rintro e w6 ⟨rfl, hb6⟩))
                  go_ret
                  exact ⟨ret_int (by rw [hsp2.out]; unfold chkEnd; rw [HFL.out, HR1.out]; simp [errB]), ((hBr.trans (hb3.mono hBr.size)).trans (hb4.mono (by have := hb3.size; omega))).trans (hb6.mono (by have := hb3.size; have := hb4.size; omega))⟩
                · have HR1 := hid hr1
                  clear hr1
                  by_cases hD : V.ds = []
                  · have hD' : ((V.ds.length : Int) == 0) = true := by rw [hD]; rfl
                    have HD := hid hD
                    clear hD
                    go_wp2_with (first
                      | (go_at_call 64; refine (concat_is HFL hll2 hsum hVr.ls).mono ?_; rintro e w3 ⟨a3, c3, rfl, hrow3, hb3⟩; obtain ⟨b0, b1, b2, b3⟩ := (ViewBox.mk e0 e1 e2 e3).ext hb3 (by omega))
                      | (go_at_call 63; refine (new_any _ _ _ _ hfb hrow3).mono ?_; rintro e w4 ⟨s4, r4, rfl, hs4, hr4, hS4, hb4⟩; obtain ⟨x0, x1, x2, x3⟩ := (ViewBox.mk b0 b1 b2 b3).ext hb4 (by have := hb3.size; omega))
                      | (go_at_call 49; refine (len_any _ _ _ _ hS4).mono ?_; rintro e w5 ⟨rfl, rfl⟩)
                      | (go_at_call 62; refine (rising_is HR1 hFb ((hrowF.ext hb3).ext hb4) ((hMr.ext hb3).ext hb4)).mono ?_; rintro e w6 ⟨rfl, hb6⟩; obtain ⟨y0, y1, y2, y3⟩ := (ViewBox.mk x0 x1 x2 x3).ext hb6 (by have := hb3.size; have := hb4.size; omega)))
                    go_ret
                    exact ⟨ret_int (by rw [hsp2.out]; unfold chkEnd; rw [HD.out]; simp [errB]), ((hBr.trans (hb3.mono hBr.size)).trans (hb4.mono (by have := hb3.size; omega))).trans (hb6.mono (by have := hb3.size; have := hb4.size; omega))⟩
                  · have hD' : ((V.ds.length : Int) == 0) = false := by
                      have := List.length_pos_iff.2 hD
                      rw [beq_eq_false_iff_ne]; omega
                    have HD := hid hD
                    clear hD
                    cases hr2 : risFrom (ranksL V.ms) (-1) V.ds
                    all_goals
                      have HR2 := hid hr2
                      clear hr2
                      go_wp2_with (first
                        | (go_at_call 64; refine (concat_is HFL hll2 hsum hVr.ls).mono ?_; rintro e w3 ⟨a3, c3, rfl, hrow3, hb3⟩; obtain ⟨b0, b1, b2, b3⟩ := (ViewBox.mk e0 e1 e2 e3).ext hb3 (by omega))
                        | (go_at_call 63; refine (new_any _ _ _ _ hfb hrow3).mono ?_; rintro e w4 ⟨s4, r4, rfl, hs4, hr4, hS4, hb4⟩; obtain ⟨x0, x1, x2, x3⟩ := (ViewBox.mk b0 b1 b2 b3).ext hb4 (by have := hb3.size; omega))
                        | (go_at_call 49; refine (len_any _ _ _ _ hS4).mono ?_; rintro e w5 ⟨rfl, rfl⟩)
                        | (go_at_call_of 62 aF; refine (rising_is HR1 hFb ((hrowF.ext hb3).ext hb4) ((hMr.ext hb3).ext hb4)).mono ?_; rintro e w6 ⟨rfl, hb6⟩; obtain ⟨y0, y1, y2, y3⟩ := (ViewBox.mk x0 x1 x2 x3).ext hb6 (by have := hb3.size; have := hb4.size; omega))
                        | (go_at_call_of 62 ad; refine (rising_is HR2 hld (((hVr.ds.ext hb3).ext hb4).ext hb6) (((hMr.ext hb3).ext hb4).ext hb6)).mono ?_; rintro e w7 ⟨rfl, hb7⟩))
                      go_ret
                      exact ⟨ret_int (by rw [hsp2.out]; unfold chkEnd; rw [HFL.out, HR1.out, HR2.out, decide_eq_true HA.out, decide_eq_true HU.out, decide_eq_true HD.out]; rfl), (((hBr.trans (hb3.mono hBr.size)).trans (hb4.mono (by have := hb3.size; omega))).trans (hb6.mono (by have := hb3.size; have := hb4.size; omega))).trans (hb7.mono (by have := hb3.size; have := hb4.size; have := hb6.size; omega))⟩
              · have hU' : (((unionL [] fl).length : Int) != (m : Int)) = true := by rw [bne_iff_ne]; omega
                have HU := hid hU
                clear hU
                go_wp2_with (first
                  | (go_at_call 64; refine (concat_is HFL hll2 hsum hVr.ls).mono ?_; rintro e w3 ⟨a3, c3, rfl, hrow3, hb3⟩; obtain ⟨b0, b1, b2, b3⟩ := (ViewBox.mk e0 e1 e2 e3).ext hb3 (by omega))
                  | (go_at_call 63; refine (new_any _ _ _ _ hfb hrow3).mono ?_; rintro e w4 ⟨s4, r4, rfl, hs4, hr4, hS4, hb4⟩; obtain ⟨x0, x1, x2, x3⟩ := (ViewBox.mk b0 b1 b2 b3).ext hb4 (by have := hb3.size; omega))
                  | (go_at_call 49; refine (len_any _ _ _ _ hS4).mono ?_; rintro e w5 ⟨rfl, rfl⟩))
                go_ret
                exact ⟨ret_int (by rw [hsp2.out]; unfold chkEnd; rw [HFL.out, decide_eq_false HU.out]; simp [errB]), ((hBr.trans (hb3.mono hBr.size)).trans (hb4.mono (by have := hb3.size; omega)))⟩
            · have hA' : ((m : Int) != (V.ms.length : Int)) = true := by rw [bne_iff_ne]; omega
              have HA : Hid (¬ m = V.ms.length) := hA
              clear hA
              go_wp2
              go_ret
              exact ⟨ret_int (by rw [hsp2.out]; unfold chkEnd; rw [decide_eq_false HA.out]; rfl), hBr⟩
    · go_enter Try.func14, Try.ntmps14
      go_wp2
      go_ret
      exact ⟨ret_int (by rw [checkB_2 (by omega)]; rfl), hBx⟩
  · go_enter Try.func14, Try.ntmps14
    go_wp2
    go_ret
    exact ⟨ret_int (by rw [checkB_1 (by omega)]; rfl), hBx⟩
end Go.Proofs.Ytjcgijchmnnfaaa
