/- Parts of the proof: R2. -/
import Derived.Test.YtppapeoainafbaaGreatDoorGViewTexts0
namespace Go.Proofs.YtppapeoainafbaaGreatDoor
open Go.RowKit

def sameId (p q : Pid) : Bool := decide (q.1 = p.1)
def refA (K : Bool) (ms : List Pid) (i : Nat) : List Pid → Bool
  | [] => K
  | p :: r => if mayR p then (if (ms.take i).any (sameId p) then false else refA K ms (i + 1) r) else false
def refB (K : Bool) (fl : List Pid) : List Pid → Bool
  | [] => K
  | p :: r => if fl.count p = 1 then refB K fl r else false
def refC (ms : List Pid) (K : List Pid → Bool) : List Pid → List (List Pid) → Bool
  | F, [] => K F
  | F, l :: r => match l with
    | [] => false
    | p :: _ => if risR ms l then refC ms K (F ++ [p]) r else false
def refG (V : View) : Bool :=
  decide (1 ≤ V.id) && (decide (V.id ≤ 4611686018427387904) && (decide (1 ≤ V.ms.length) && (decide (V.ms.length ≤ 24) && (decide (V.ls.length ≤ V.ms.length) && (decide (1 ≤ V.ds.length) && decide (V.ds.length ≤ V.ms.length))))))
def refCB (V : View) : Bool := refC V.ms (fun F => risR V.ms F && risR V.ms V.ds) [] V.ls
/-- choragusref08.Check, as data -/
def refCheckB (V : View) : Bool := refG V && refA (refB (refCB V) V.ls.flatten V.ms) V.ms 0 V.ms
theorem refA_drop {K : Bool} {ms : List Pid} {i : Nat} (h : i < ms.length) {x y : Int} (hx : (x, y) = ms[i]) :
    refA K ms i (ms.drop i) = if mayR (x, y) then (if (ms.take i).any (sameId (x, y)) then false else refA K ms (i + 1) (ms.drop (i + 1))) else false := by
  rw [List.drop_eq_getElem_cons h, ← hx]; rfl
theorem refB_drop {K : Bool} {fl ms : List Pid} {i : Nat} (h : i < ms.length) {x y : Int} (hx : (x, y) = ms[i]) :
    refB K fl (ms.drop i) = if fl.count (x, y) = 1 then refB K fl (ms.drop (i + 1)) else false := by
  rw [List.drop_eq_getElem_cons h, ← hx]; rfl
theorem refC_nil {ms : List Pid} {K : List Pid → Bool} {F : List Pid} {ls : List (List Pid)} {k : Nat} (h : k < ls.length) (h0 : ls[k] = []) : refC ms K F (ls.drop k) = false := by
  rw [List.drop_eq_getElem_cons h, h0]; rfl
theorem refC_cons {ms : List Pid} {K : List Pid → Bool} {F : List Pid} {ls : List (List Pid)} {k : Nat} (h : k < ls.length) {l : List Pid} (hl : l = ls[k]) {p : Pid} (hp : l.head? = some p) :
    refC ms K F (ls.drop k) = if risR ms l then refC ms K (F ++ [p]) (ls.drop (k + 1)) else false := by
  rw [List.drop_eq_getElem_cons h, ← hl]
  cases l with
  | nil => simp at hp
  | cons q r => simp at hp; subst hp; rfl
theorem anyFrom {ms : List Pid} {i k : Nat} (hk : k < i) (hi : i ≤ ms.length) {p q : Pid} (hq : q = ms[k]'(by omega)) : ((ms.take i).drop k).any (sameId p) = (sameId p q || ((ms.take i).drop (k + 1)).any (sameId p)) := by
  have h : k < (ms.take i).length := by simp; omega
  rw [List.drop_eq_getElem_cons h, List.any_cons, List.getElem_take, ← hq]

section
variable {w : World} {b : Nat} {V : View} {am al ad : Option Addr} {cm cl cd : Nat}
theorem ViewBox.extw (h : ViewBox w b V am al ad cm cl cd) : (∀ U : ExtW w, U.W.cell? ⟨b, 0, none⟩ = some (.int .u64 V.id)) ∧ (∀ U : ExtW w, U.W.cell? ⟨b, 1, none⟩ = some (.slice am V.ms.length cm)) ∧ (∀ U : ExtW w, U.W.cell? ⟨b, 2, none⟩ = some (.slice al V.ls.length cl)) ∧ (∀ U : ExtW w, U.W.cell? ⟨b, 3, none⟩ = some (.slice ad V.ds.length cd)) :=
  ⟨fun U => (h.ext U.h h.lt).c0, fun U => (h.ext U.h h.lt).c1, fun U => (h.ext U.h h.lt).c2, fun U => (h.ext U.h h.lt).c3⟩
end

theorem cell_extw {w : World} {a : Addr} {v : Value} (h : w.cell? a = some v) : ∀ U : ExtW w, U.W.cell? a = some v := fun U => (U.h.cell (World.block_lt_of_cell? w _ h)).trans h
theorem cell_to {w wr : World} {a : Addr} {v : Value} (h : w.cell? a = some v) (hb : Below w.heap.size w wr) : wr.cell? a = some v := (hb.cell (World.block_lt_of_cell? w _ h)).trans h
theorem risR_is {am : Option Addr} {cm : Nat} {ms : List Pid} {a : Option Addr} {c : Nat} {xs : List Pid} {w : World} {bm : Bool} (h : Hid (risR ms xs = bm)) (hnm : ms.length ≤ 70368744177664) (hn : xs.length ≤ 70368744177664) (hrm : PidRow w am ms) (hrow : PidRow w a xs) :
   Calls Tryz.prog 62 #[.slice am ms.length cm, .slice a xs.length c] w fun e w' => e = .returned (.bool bm) ∧ Below w.heap.size w w' := by
  have := risR_any am cm ms a c xs w hnm hn hrm hrow
  rw [h.out] at this
  exact this
theorem risR_ext {w0 : World} {U : ExtW w0} {am : Option Addr} {cm : Nat} {ms : List Pid} {a : Option Addr} {c : Nat} {xs : List Pid} {bm : Bool} (h : Hid (risR ms xs = bm)) (hnm : ms.length ≤ 70368744177664) (hn : xs.length ≤ 70368744177664) (hrm : PidRow w0 am ms) (hrow : PidRow w0 a xs) :
   Calls Tryz.prog 62 #[.slice am ms.length cm, .slice a xs.length c] U.W fun e w' => e = .returned (.bool bm) ∧ ∃ U' : ExtW w0, w' = U'.W := by
  refine (risR_is h hnm hn (hrm.ext U.h) (hrow.ext U.h)).mono ?_
  rintro e w' ⟨rfl, hb⟩
  exact ⟨rfl, ⟨_, U.h.trans (hb.mono U.h.size)⟩, rfl⟩
theorem count_take_succ {l : List Pid} {j : Nat} (h : j < l.length) (p : Pid) {q : Pid} (hq : q = l[j]) : (l.take (j + 1)).count p = (l.take j).count p + (if q = p then 1 else 0) := by
  rw [List.take_succ_eq_append_getElem h, List.count_append, ← hq, List.count_singleton]
  simp only [beq_iff_eq]
theorem count_flatten_succ {ls : List (List Pid)} {q : Nat} (h : q < ls.length) (p : Pid) {l : List Pid} (hl : l = ls[q]) : (ls.take (q + 1)).flatten.count p = (ls.take q).flatten.count p + l.count p := by
  rw [flatten_take_succ h, List.count_append, ← hl]

set_option maxRecDepth 100000 in
set_option maxHeartbeats 16000000 in
theorem refCheck_any (V : View) (am al ad : Option Addr) (cm cl cd : Nat) (w : World) (hV : ViewR w am al ad V) (hsum : lens V.ls ≤ 549755813888) :
   Calls Tryz.prog 18 #[.agg #[.int .u64 V.id, .slice am V.ms.length cm, .slice al V.ls.length cl, .slice ad V.ds.length cd]] w fun e w' => e = .returned (.bool (refCheckB V)) ∧ Below w.heap.size w w' := by
  have hBx : Below w.heap.size w (w.alloc (.cells #[.int .u64 V.id, .slice am V.ms.length cm, .slice al V.ls.length cl, .slice ad V.ds.length cd] 33)) := (Below.refl _ _).alloc (Nat.le_refl _) _
  have hVx := hV.ext hBx
  have hbx : ViewBox _ _ V am al ad cm cl cd := ViewBox.made w
  have hz1 : w.heap.size < (w.alloc (.cells #[.int .u64 V.id, .slice am V.ms.length cm, .slice al V.ls.length cl, .slice ad V.ds.length cd] 33)).heap.size := by simp
  have hll := hV.ll
  have hlm := hV.lm
  have hld := hV.ld
  cases hg : refG V
  · have hspec : Hid (refCheckB V = false) := by simp only [Hid, refCheckB, hg, Bool.false_and]
    unfold refG at hg
    by_cases g1 : 1 ≤ V.id
    · by_cases g2 : V.id ≤ 4611686018427387904
      · by_cases g3 : 1 ≤ V.ms.length
        · by_cases g4 : V.ms.length ≤ 24
          · by_cases g5 : V.ls.length ≤ V.ms.length
            · by_cases g6 : 1 ≤ V.ds.length
              · have g7 : ¬ V.ds.length ≤ V.ms.length := by
                  intro g7
                  rw [decide_eq_true g1, decide_eq_true g2, decide_eq_true g3, decide_eq_true g4, decide_eq_true g5, decide_eq_true g6, decide_eq_true g7] at hg
                  exact absurd hg (by decide)
                clear hg
                go_enter Tryz.func18, Tryz.ntmps18
                go_wp2
                go_ret
                exact ⟨ret_bool hspec.out.symm, hBx⟩
              all_goals
                clear hg
                go_enter Tryz.func18, Tryz.ntmps18
                go_wp2
                go_ret
                exact ⟨ret_bool hspec.out.symm, hBx⟩
            all_goals
              clear hg
              go_enter Tryz.func18, Tryz.ntmps18
              go_wp2
              go_ret
              exact ⟨ret_bool hspec.out.symm, hBx⟩
          all_goals
            clear hg
            go_enter Tryz.func18, Tryz.ntmps18
            go_wp2
            go_ret
            exact ⟨ret_bool hspec.out.symm, hBx⟩
        all_goals
          clear hg
          go_enter Tryz.func18, Tryz.ntmps18
          go_wp2
          go_ret
          exact ⟨ret_bool hspec.out.symm, hBx⟩
      all_goals
        clear hg
        go_enter Tryz.func18, Tryz.ntmps18
        go_wp2
        go_ret
        exact ⟨ret_bool hspec.out.symm, hBx⟩
    all_goals
      clear hg
      go_enter Tryz.func18, Tryz.ntmps18
      go_wp2
      go_ret
      exact ⟨ret_bool hspec.out.symm, hBx⟩
  · have hg2 := hg
    unfold refG at hg2
    simp only [Bool.and_eq_true, decide_eq_true_eq] at hg2
    obtain ⟨g1, g2, g3, g4, g5, g6, g7⟩ := hg2
    have HG := hid hg
    clear hg
    have k1 : decide (V.id < 1) = false := by simp; omega
    have k2 : decide (4611686018427387904 < V.id) = false := by simp; omega
    have k3 : decide ((V.ms.length : Int) < 1) = false := by simp; omega
    have k4 : decide (24 < (V.ms.length : Int)) = false := by simp; omega
    have k5 : decide (V.ms.length < V.ls.length) = false := by simp; omega
    have k6 : decide ((V.ds.length : Int) < 1) = false := by simp; omega
    have k7 : decide (V.ms.length < V.ds.length) = false := by simp; omega
    go_enter Tryz.func18, Tryz.ntmps18
    go_wp2
    generalize (w.alloc (.cells #[.int .u64 V.id, .slice am V.ms.length cm, .slice al V.ls.length cl, .slice ad V.ds.length cd] 33)) = w1 at *
    go_loopw [2, 4] (fun rs i wr => rs = .bool false ∧ ∃ (k : Nat), k ≤ V.ms.length ∧ i = .int .i64 k ∧ Hid (refCheckB V = refA (refB (refCB V) V.ls.flatten V.ms) V.ms k (V.ms.drop k)) ∧ Below w1.heap.size w1 wr) (fun _ i _ => V.ms.length - (intOf i).toNat)
    case atStart => exact ⟨rfl, 0, Nat.zero_le _, rfl, (show refCheckB V = _ by unfold refCheckB; rw [HG.out]; rfl), Below.refl _ _⟩
    case round =>
      obtain ⟨rfl, k, hk, rfl, ha, hb⟩ := hrel
      by_cases hlt : k < V.ms.length
      · obtain ⟨b, off, x, y, hab, hx, d1, d2⟩ := hVx.ms.at hb rfl hlt
        subst hab
        obtain ⟨e0, e1, e2, e3⟩ := hbx.ext hb hbx.lt
        obtain ⟨u0, u1, u2, u3⟩ := hbx.extw
        obtain ⟨p0, p1⟩ := hVx.ms.extw hlt hx
        have hd := refA_drop (K := refB (refCB V) V.ls.flatten V.ms) hlt hx
        cases hm : mayR (x, y)
        · rw [hm] at hd
          have HD := hid hd
          have HM := hid hm
          clear hd hm hx u0 u1 u2 u3 p0 p1
          go_wp2_with (go_at_call 61; refine (mayR_is HM).mono ?_; rintro e w3 ⟨rfl, hb3⟩)
          go_ret
          exact ⟨ret_bool (by rw [ha.out, HD.out]; rfl), (hBx.trans (hb.mono (by omega))).trans (hb3.mono (by have := hb.size; omega))⟩
        · rw [hm] at hd
          have HD := hid hd
          have HM := hid hm
          have HX := hid hx
          clear hd hm hx
          go_wp2_with (go_at_call 61; refine (mayR_is HM).mono ?_; rintro e w3 ⟨rfl, hb3⟩)
          have hb13 : Below w1.heap.size w1 w3 := hb.trans (hb3.mono hb.size)
          clear hb hb3 d1 d2 e0 e1 e2 e3
          go_loopw [2, 5] (fun rs j wr => rs = .bool false ∧ ∃ (m : Nat), m ≤ k ∧ j = .int .i64 m ∧ Hid ((V.ms.take k).any (sameId (x, y)) = ((V.ms.take k).drop m).any (sameId (x, y))) ∧ Below w1.heap.size w1 wr) (fun _ j _ => k - (intOf j).toNat)
          case atStart => exact ⟨rfl, 0, Nat.zero_le _, rfl, rfl, hb13⟩
          case round =>
            obtain ⟨rfl, m, hm, rfl, hin, hb⟩ := hrel
            by_cases hmk : m < k
            · obtain ⟨b', off', x2, y2, hab, hx2, -, -⟩ := hVx.ms.at hb rfl (k := m) (by omega)
              cases hab
              obtain ⟨q0, q1⟩ := hVx.ms.extw (k := m) (by omega) hx2
              have hany := anyFrom (p := (x, y)) hmk (by omega) hx2
              have HANY := hid hany
              clear hany hx2
              by_cases hxx : x2 = x
              · have hxx' : (x2 == x) = true := by simpa using hxx
                have HXX := hid hxx
                clear hxx
                go_wp2
                refine wp_region_ext hb (by kernel_rfl) (by kernel_rfl) ?_
                repeat (go_big_quiet_step (fail))
                refine wpQuiet_nil ?_
                rintro _ ⟨⟨w9, hb9⟩, rfl⟩
                go_wp2
                go_ret
                exact ⟨ret_bool (by rw [ha.out, HD.out, hin.out, HANY.out]; simp [sameId, HXX.out]), hBx.trans (hb9.mono (by omega))⟩
              · have hxx' : (x2 == x) = false := by simpa using hxx
                have HXX : Hid (¬ x2 = x) := hxx
                clear hxx
                go_wp2
                refine wp_region_ext hb (by kernel_rfl) (by kernel_rfl) ?_
                repeat (go_big_quiet_step (fail))
                refine wpQuiet_nil ?_
                rintro _ ⟨⟨w9, hb9⟩, rfl⟩
                go_wp2
                go_roundw
                case rel => exact ⟨rfl, m + 1, by omega, by go_num, (hin.out.trans (by rw [HANY.out]; simp [sameId, HXX.out]) : _), hb9⟩
                case measure => simp [intOf]; omega
            · have hnone : (V.ms.take k).any (sameId (x, y)) = false := by
                rw [hin.out, List.drop_eq_nil_of_le (by simp; omega)]; rfl
              have HN := hid hnone
              clear hnone
              go_wp2
              go_roundw
              case rel => exact ⟨rfl, k + 1, by omega, by go_num, (ha.out.trans (by rw [HD.out, HN.out]; rfl) : _), hb⟩
              case measure => simp [intOf]; omega
      · have ha2 : Hid (refCheckB V = refB (refCB V) V.ls.flatten V.ms) := by
          have := ha.out
          rw [List.drop_eq_nil_of_le (by omega)] at this
          exact this
        clear ha
        obtain ⟨fl, hfl⟩ : ∃ fl, V.ls.flatten = fl := ⟨_, rfl⟩
        rw [hfl] at ha2
        have HFL := hid hfl
        clear hfl
        obtain ⟨u0, u1, u2, u3⟩ := hbx.extw
        go_wp2
        go_loopw [2, 6] (fun rs i wr => rs = .bool false ∧ ∃ (k : Nat), k ≤ V.ms.length ∧ i = .int .i64 k ∧ Hid (refCheckB V = refB (refCB V) fl (V.ms.drop k)) ∧ Below w1.heap.size w1 wr) (fun _ i _ => V.ms.length - (intOf i).toNat)
        case atStart => exact ⟨rfl, 0, Nat.zero_le _, rfl, ha2, hb⟩
        case round =>
          obtain ⟨rfl, i, hi, rfl, ha, hb⟩ := hrel
          by_cases hit : i < V.ms.length
          · obtain ⟨b, off, x, y, hab, hx, -, -⟩ := hVx.ms.at hb rfl hit
            subst hab
            obtain ⟨p0, p1⟩ := hVx.ms.extw hit hx
            have hd := refB_drop (K := refCB V) (fl := fl) hit hx
            have HD := hid hd
            clear hd hx
            go_wp2
            go_loopw [7, 8] (fun cv kv wr => ∃ (q c : Nat), q ≤ V.ls.length ∧ kv = .int .i64 q ∧ cv = .int .i64 c ∧ Hid (c = (V.ls.take q).flatten.count (x, y)) ∧ c ≤ lens (V.ls.take q) ∧ Below w1.heap.size w1 wr) (fun _ kv _ => V.ls.length - (intOf kv).toNat)
            case atStart => exact ⟨0, 0, Nat.zero_le _, rfl, rfl, (show 0 = _ by simp), Nat.zero_le _, hb⟩
            case round =>
              obtain ⟨q, c, hq, rfl, rfl, hc, hcl, hb⟩ := hrel
              obtain ⟨e0, e1, e2, e3⟩ := hbx.ext hb hbx.lt
              have hlt2 := lens_take_le V.ls (q + 1)
              by_cases hqt : q < V.ls.length
              · obtain ⟨bl, ofl, ai, ci, l, hal, hxl, f1, f2⟩ := hVx.ls.at (Below.refl _ _) rfl hqt
                subst hal
                have hll1 : l.length ≤ 70368744177664 := hVx.le l (by rw [hxl]; exact List.getElem_mem _)
                have hls := lens_take_succ hqt
                rw [← hxl] at hls
                have hcf := count_flatten_succ hqt (x, y) hxl
                have HCF := hid hcf
                have v1 := cell_extw f1
                have hbnd : lens (V.ls.take q) + l.length ≤ 549755813888 := by omega
                have HLS := hid hls
                clear hcf hxl hls hlt2
                go_wp2
                go_loopw [7, 9] (fun cv jv wr => ∃ (j c2 : Nat), j ≤ l.length ∧ jv = .int .i64 j ∧ cv = .int .i64 c2 ∧ Hid (c2 = c + (l.take j).count (x, y)) ∧ c2 ≤ lens (V.ls.take q) + j ∧ Below w1.heap.size w1 wr) (fun _ jv _ => l.length - (intOf jv).toNat)
                case atStart => exact ⟨0, c, Nat.zero_le _, rfl, rfl, (show c = _ by simp), by omega, hb⟩
                case round =>
                  obtain ⟨j, c2, hj, rfl, rfl, hc2, hc2l, hb⟩ := hrel
                  obtain ⟨e0, e1, e2, e3⟩ := hbx.ext hb hbx.lt
                  have f1r := cell_to f1 hb
                  by_cases hjt : j < l.length
                  · obtain ⟨b2, of2, x2, y2, hab2, hx2, -, -⟩ := f2.at (Below.refl _ _) rfl hjt
                    subst hab2
                    obtain ⟨q0, q1⟩ := f2.extw hjt hx2
                    have hct := count_take_succ hjt (x, y) hx2
                    have HCT := hid hct
                    clear hct hx2
                    have he := fun w => eql_pid x2 y2 x y w
                    by_cases hxy : (x2, y2) = (x, y)
                    · have hxy1 : decide ((x2, y2) = (x, y)) = true := by simpa using hxy
                      rw [hxy1] at he
                      have HXY := hid hxy
                      clear hxy hxy1
                      go_wp2
                      refine wp_region_ext hb (by kernel_rfl) (by kernel_rfl) ?_
                      repeat (go_big_quiet_step (fail))
                      refine wpQuiet_nil ?_
                      rintro _ ⟨⟨w9, hb9⟩, rfl⟩
                      go_wp2
                      go_roundw
                      case rel => exact ⟨j + 1, c2 + 1, by omega, by go_num, by go_num, (show c2 + 1 = _ by rw [HCT.out, if_pos HXY.out, hc2.out]; omega), by omega, hb9⟩
                      case measure => simp [intOf]; omega
                    · have hxy1 : decide ((x2, y2) = (x, y)) = false := by simpa using hxy
                      rw [hxy1] at he
                      have HXY : Hid (¬ (x2, y2) = (x, y)) := hxy
                      clear hxy hxy1
                      go_wp2
                      refine wp_region_ext hb (by kernel_rfl) (by kernel_rfl) ?_
                      repeat (go_big_quiet_step (fail))
                      refine wpQuiet_nil ?_
                      rintro _ ⟨⟨w9, hb9⟩, rfl⟩
                      go_wp2
                      go_roundw
                      case rel => exact ⟨j + 1, c2, by omega, by go_num, rfl, (show c2 = _ by rw [HCT.out, if_neg HXY.out, hc2.out]; omega), by omega, hb9⟩
                      case measure => simp [intOf]; omega
                  · go_wp2
                    go_roundw
                    case rel => exact ⟨q + 1, c2, by omega, by go_num, rfl, (show c2 = _ by rw [HCF.out, hc2.out, ← hc.out, List.take_of_length_le (by omega)]), by rw [HLS.out]; omega, hb⟩
                    case measure => simp [intOf]; omega
              · have hcall : c = fl.count (x, y) := by rw [hc.out, List.take_of_length_le (by omega), HFL.out]
                by_cases hc1 : c = 1
                · have hcb : ((c : Int) != 1) = false := by rw [hc1]; rfl
                  rw [hc1] at hcall
                  have HC := hid hcall
                  clear hcall hc1
                  go_wp2
                  go_roundw
                  case rel => exact ⟨rfl, i + 1, by omega, by go_num, (ha.out.trans (by rw [HD.out, ← HC.out]; rfl) : _), hb⟩
                  case measure => simp [intOf]; omega
                · have hcb : ((c : Int) != 1) = true := by rw [bne_iff_ne]; omega
                  have HC : Hid (¬ fl.count (x, y) = 1) := by rw [← hcall]; exact hc1
                  clear hcall hc1
                  go_wp2
                  go_ret
                  exact ⟨ret_bool (by rw [ha.out, HD.out, if_neg HC.out]), hBx.trans (hb.mono (by omega))⟩
          · have ha3 : Hid (refCheckB V = refC V.ms (fun F => risR V.ms F && risR V.ms V.ds) [] V.ls) := by
              have := ha.out
              rw [List.drop_eq_nil_of_le (by omega)] at this
              exact this
            clear ha
            go_wp2
            go_loopw [2, 10, 11] (fun rs v kv wr => rs = .bool false ∧ ∃ (k : Nat) (F : List Pid), k ≤ V.ls.length ∧ kv = .int .i64 k ∧ F.length ≤ lens (V.ls.take k) ∧ Hid (refCheckB V = refC V.ms (fun F => risR V.ms F && risR V.ms V.ds) F (V.ls.drop k)) ∧ OwnP wr w1.heap.size v F ∧ Below w1.heap.size w1 wr) (fun _ _ kv _ => V.ls.length - (intOf kv).toNat)
            case atStart => exact ⟨rfl, 0, [], Nat.zero_le _, rfl, by simp, ha3, OwnP.nil _ _, hb⟩
            case round =>
              obtain ⟨rfl, k, F, hk, rfl, hF, hsp, hown, hb⟩ := hrel
              obtain ⟨e0, e1, e2, e3⟩ := hbx.ext hb hbx.lt
              have hBr : Below w.heap.size w wr := hBx.trans (hb.mono (by omega))
              have hzr := hb.size
              have hle' := lens_take_le V.ls (k + 1)
              by_cases hkt : k < V.ls.length
              · obtain ⟨bl, ofl, ai, ci, l, hal, hxl, f1, f2⟩ := hVx.ls.at (Below.refl _ _) rfl hkt
                subst hal
                have hll1 : l.length ≤ 70368744177664 := hVx.le l (by rw [hxl]; exact List.getElem_mem _)
                have v1 := cell_extw f1
                have hs := lens_take_succ hkt
                rw [← hxl] at hs
                rcases hl : l with _ | ⟨p, l'⟩
                · have h0 : ((l.length : Int) == 0) = true := by rw [hl]; rfl
                  have hnil := refC_nil (ms := V.ms) (K := fun F => risR V.ms F && risR V.ms V.ds) (F := F) hkt (by rw [← hxl, hl])
                  have HN := hid hnil
                  clear hnil hl hxl hs hle'
                  go_wp2
                  refine wp_region_ext hb (by kernel_rfl) (by kernel_rfl) ?_
                  repeat (go_big_quiet_step (fail))
                  refine wpQuiet_nil ?_
                  rintro _ ⟨⟨w9, hb9⟩, rfl⟩
                  go_wp2
                  go_ret
                  exact ⟨ret_bool (by rw [hsp.out, HN.out]), hBx.trans (hb9.mono (by omega))⟩
                · have hpos : 0 < l.length := by rw [hl]; simp
                  have h0 : ((l.length : Int) == 0) = false := by rw [beq_eq_false_iff_ne]; omega
                  have hcons := refC_cons (ms := V.ms) (K := fun F => risR V.ms F && risR V.ms V.ds) (F := F) hkt hxl (p := p) (by rw [hl]; rfl)
                  have HC := hid hcons
                  have hp0 : l[0]'hpos = p := by simp [hl]
                  have HP := hid hp0
                  have hfb : F.length + l.length ≤ 549755813888 := by omega
                  have hfn : F.length + 1 ≤ lens (V.ls.take (k + 1)) := by omega
                  clear hcons hl hxl hs hp0 hle' hF
                  cases hr0 : risR V.ms l
                  · have HR := hid hr0
                    clear hr0
                    go_wp2
                    refine wp_region_ext hb (by kernel_rfl) (by kernel_rfl) ?_
                    repeat (go_big_quiet_step (exact risR_ext HR hlm hll1 hVx.ms f2))
                    refine wpQuiet_nil ?_
                    rintro _ ⟨⟨w9, hb9⟩, rfl⟩
                    go_wp2
                    go_ret
                    exact ⟨ret_bool (by rw [hsp.out, HC.out, HR.out]; rfl), hBx.trans (hb9.mono (by omega))⟩
                  · have HR := hid hr0
                    clear hr0
                    go_wp2
                    have x1 := cell_extw e1
                    have x2 := cell_extw e2
                    have x4 := cell_extw (cell_to f1 hb)
                    have hmr := hVx.ms.ext hb
                    have flr := f2.ext hb
                    obtain ⟨pb, po, px, py, rfl, hpx, g1, g2⟩ := f2.at (Below.refl _ _) rfl hpos
                    rw [Nat.zero_mul, Nat.add_zero] at g1 g2
                    have HPX := hid hpx
                    clear hpx u0 u1 u2 u3 v1
                    refine wp_region_ext (w := wr) (Below.refl _ _) (by kernel_rfl) (by kernel_rfl) ?_
                    repeat (go_big_quiet_step (exact risR_ext HR hlm hll1 hmr flr))
                    refine wpQuiet_nil ?_
                    rintro w9 ⟨⟨_, hb9⟩, rfl⟩
                    have hb19 : Below w1.heap.size w1 w9 := hb.trans (hb9.mono hzr)
                    obtain ⟨y0, y1, y2, y3⟩ := hbx.ext hb19 hbx.lt
                    have f19 := cell_to f1 hb19
                    have g19 := cell_to g1 hb19
                    have g29 := cell_to g2 hb19
                    have hown9 := hown.ext hb9
                    clear x1 x2 x4 e0 e1 e2 e3
                    go_wp2_with (at_builtin; refine wpList_appendP (hown9.ext ((Below.refl _ _).alloc (Nat.le_refl _) _)) (PidRow.one _ px py) ?cb ?cz rfl rfl rfl rfl ?_; rotate_right; intro v4 w4 hown4 hg4 hnil4)
                    case cb => simp; omega
                    case cz => have := hb9.size; simp; omega
                    have hz9 := hb9.size
                    have hb14 : Below w1.heap.size w1 w4 := (hb19.alloc (by omega) _).grown hg4 (by simp; omega) (fun g hg => (World.ownsRow.lt hown g hg).1)
                    have hpp : (px, py) = p := by rw [HPX.out, HP.out]
                    go_roundw
                    case rel => exact ⟨rfl, k + 1, F ++ [p], by omega, by go_num, by simp; omega, hsp.out.trans (by rw [HC.out, HR.out]; rfl), by rw [← hpp]; exact hown4, hb14⟩
                    case measure => simp [intOf]; omega
              · have hsp2 : Hid (refCheckB V = (risR V.ms F && risR V.ms V.ds)) := by
                  have := hsp.out
                  rw [List.drop_eq_nil_of_le (by omega)] at this
                  exact this
                have hFb : F.length ≤ 70368744177664 := by
                  have := lens_take_le V.ls k
                  omega
                have hmr := hVx.ms.ext hb
                have hdr := hVx.ds.ext hb
                obtain ⟨aF, cF, rfl, hrowF, _⟩ := hown.row
                clear hsp
                cases hr1 : risR V.ms F
                · have HR1 := hid hr1
                  clear hr1
                  go_wp2_with (go_at_call 62; refine (risR_is HR1 hlm hFb hmr hrowF).mono ?_; rintro e w5 ⟨rfl, hb5⟩)
                  go_ret
                  exact ⟨ret_bool (by rw [hsp2.out, HR1.out]; rfl), hBr.trans (hb5.mono hBr.size)⟩
                · have HR1 := hid hr1
                  clear hr1
                  cases hr2 : risR V.ms V.ds
                  all_goals
                    have HR2 := hid hr2
                    clear hr2
                    go_wp2_with (first
                      | (go_at_call_of 62 aF; refine (risR_is HR1 hlm hFb hmr hrowF).mono ?_; rintro e w5 ⟨rfl, hb5⟩; obtain ⟨y0, y1, y2, y3⟩ := (ViewBox.mk e0 e1 e2 e3).ext hb5 (by omega))
                      | (go_at_call_of 62 ad; refine (risR_is HR2 hlm hld (hmr.ext hb5) (hdr.ext hb5)).mono ?_; rintro e w6 ⟨rfl, hb6⟩))
                    go_ret
                    exact ⟨ret_bool (by rw [hsp2.out, HR1.out, HR2.out]; rfl), (hBr.trans (hb5.mono hBr.size)).trans (hb6.mono (by have := hb5.size; omega))⟩
end Go.Proofs.YtppapeoainafbaaGreatDoor

