import Derived.Test.YtjcgijchmnnfaaaR2
namespace Go.Proofs.Ytjcgijchmnnfaaa
open Go.RowKit

def greatB (V : View) : Bool := decide (40 < V.ms.length) || (decide (40 < V.ls.length) || (decide (40 < V.ds.length) || V.ls.any fun l => decide (40 < l.length)))
theorem any_drop {ls : List (List Pid)} {k : Nat} (h : k < ls.length) {l : List Pid} (hl : l = ls[k]) (f : List Pid → Bool) : (ls.drop k).any f = (f l || (ls.drop (k + 1)).any f) := by
  rw [List.drop_eq_getElem_cons h, List.any_cons, ← hl]

set_option maxRecDepth 100000 in
set_option maxHeartbeats 800000 in
theorem great_any (V : View) (am al ad : Option Addr) (cm cl cd : Nat) (w : World) (hV : ViewR w am al ad V) :
   Calls Try.prog 12 #[.agg #[.int .u64 V.id, .slice am V.ms.length cm, .slice al V.ls.length cl, .slice ad V.ds.length cd]] w fun e w' => e = .returned (.bool (greatB V)) ∧ Below w.heap.size w w' := by
  have hBx : Below w.heap.size w (w.alloc (.cells #[.int .u64 V.id, .slice am V.ms.length cm, .slice al V.ls.length cl, .slice ad V.ds.length cd] 26)) := (Below.refl _ _).alloc (Nat.le_refl _) _
  have hVx := hV.ext hBx
  have hbx : ViewBox _ _ V am al ad cm cl cd := ViewBox.made w
  have hll := hV.ll
  by_cases g1 : 40 < V.ms.length
  · have k1 : decide (40 < (V.ms.length : Int)) = true := by simp; omega
    go_enter Try.func12, Try.ntmps12
    go_wp2
    go_ret
    exact ⟨ret_bool (by unfold greatB; rw [decide_eq_true g1]; rfl), hBx⟩
  · have k1 : decide (40 < (V.ms.length : Int)) = false := by simp; omega
    by_cases g2 : 40 < V.ls.length
    · have k2 : decide (40 < (V.ls.length : Int)) = true := by simp; omega
      go_enter Try.func12, Try.ntmps12
      go_wp2
      go_ret
      exact ⟨ret_bool (by unfold greatB; rw [decide_eq_false (by omega), decide_eq_true g2]; rfl), hBx⟩
    · have k2 : decide (40 < (V.ls.length : Int)) = false := by simp; omega
      by_cases g3 : 40 < V.ds.length
      · have k3 : decide (40 < (V.ds.length : Int)) = true := by simp; omega
        go_enter Try.func12, Try.ntmps12
        go_wp2
        go_ret
        exact ⟨ret_bool (by unfold greatB; rw [decide_eq_false (by omega), decide_eq_false (by omega), decide_eq_true g3]; rfl), hBx⟩
      · have k3 : decide (40 < (V.ds.length : Int)) = false := by simp; omega
        have hsp0 : Hid (greatB V = V.ls.any fun l => decide (40 < l.length)) := by
          unfold greatB Hid
          rw [decide_eq_false g1, decide_eq_false g2, decide_eq_false g3]; rfl
        go_enter Try.func12, Try.ntmps12
        go_wp2
        go_loop [2, 3] (fun rs kv => rs = .bool false ∧ ∃ k : Nat, k ≤ V.ls.length ∧ kv = .int .i64 k ∧ Hid (greatB V = (V.ls.drop k).any fun l => decide (40 < l.length))) (fun _ kv => V.ls.length - (intOf kv).toNat)
        case atStart => exact ⟨rfl, 0, Nat.zero_le _, rfl, hsp0⟩
        case round =>
          obtain ⟨rfl, k, hk, rfl, hsp⟩ := hrel
          by_cases hkt : k < V.ls.length
          · obtain ⟨bl, ofl, ai, ci, l, hal, hxl, f1, f2⟩ := hVx.ls.at (Below.refl _ _) rfl hkt
            subst hal
            have hd := any_drop hkt hxl (fun l => decide (40 < l.length))
            have HD := hid hd
            clear hd hxl
            by_cases hl : 40 < l.length
            · go_wp2
              go_ret
              exact ⟨ret_bool (by rw [hsp.out, HD.out, decide_eq_true hl]; rfl), hBx⟩
            · go_wp2
              go_round
              case rel => exact ⟨rfl, k + 1, by omega, by go_num, hsp.out.trans (by rw [HD.out, decide_eq_false (by omega)]; rfl)⟩
              case measure => simp [intOf]; omega
          · go_wp2
            go_ret
            exact ⟨ret_bool (by rw [hsp.out, List.drop_eq_nil_of_le (by omega)]; rfl), hBx⟩

theorem great_is {V : View} {am al ad : Option Addr} {cm cl cd : Nat} {w : World} {bm : Bool} (h : Hid (greatB V = bm)) (hV : ViewR w am al ad V) :
   Calls Try.prog 12 #[.agg #[.int .u64 V.id, .slice am V.ms.length cm, .slice al V.ls.length cl, .slice ad V.ds.length cd]] w fun e w' => e = .returned (.bool bm) ∧ Below w.heap.size w w' := by
  have := great_any V am al ad cm cl cd w hV
  rw [h.out] at this
  exact this

/-! ### Quorum, Leaf, Rank -/
/-- how many of the leaders from place k on are among S, each at its first place -/
def quoFrom (ds : List Pid) (S : List (Pid × Unit)) : Nat → List Pid → Nat
  | _, [] => 0
  | k, p :: r => (if (look p S).isSome = true ∧ atIx ds p = (k : Int) then 1 else 0) + quoFrom ds S (k + 1) r
def quoN (ds l : List Pid) : Nat := quoFrom ds (unionL [] l) 0 ds
def quorumB (V : View) (l : List Pid) : Bool := decide (V.ds.length / 2 < quoN V.ds l)
theorem quoFrom_drop {ds : List Pid} {S : List (Pid × Unit)} {k : Nat} (h : k < ds.length) {x y : Int} (hx : (x, y) = ds[k]) :
    quoFrom ds S k (ds.drop k) = (if (look (x, y) S).isSome = true ∧ atIx ds (x, y) = (k : Int) then 1 else 0) + quoFrom ds S (k + 1) (ds.drop (k + 1)) := by
  rw [List.drop_eq_getElem_cons h, ← hx]; rfl
theorem quoFrom_le (ds : List Pid) (S : List (Pid × Unit)) : ∀ (r : List Pid) (k : Nat), quoFrom ds S k r ≤ r.length
  | [], _ => Nat.le_refl _
  | p :: r, k => by
    have := quoFrom_le ds S r (k + 1)
    unfold quoFrom
    simp only [List.length_cons]
    split <;> omega
theorem index_is {a : Option Addr} {c : Nat} {xs : List Pid} {id inc : Int} {w : World} {A : Int} (h : Hid (atIx xs (id, inc) = A)) (hn : xs.length ≤ 70368744177664) (hrow : PidRow w a xs) :
   Calls Try.prog 67 #[.slice a xs.length c, .agg #[.int .u16 id, .int .u32 inc]] w fun e w' => e = .returned (.int .i64 A) ∧ Below w.heap.size w w' := by
  have := index_any a c xs id inc w hn hrow
  rw [h.out] at this
  exact this

set_option maxRecDepth 100000 in
set_option maxHeartbeats 800000 in
theorem quorum_any (V : View) (am al ad : Option Addr) (cm cl cd : Nat) (a : Option Addr) (c : Nat) (l : List Pid) (w : World) (hV : ViewR w am al ad V) (hl : l.length ≤ 70368744177664) (hrow : PidRow w a l) :
   Calls Try.prog 16 #[.agg #[.int .u64 V.id, .slice am V.ms.length cm, .slice al V.ls.length cl, .slice ad V.ds.length cd], .slice a l.length c] w fun e w' => e = .returned (.bool (quorumB V l)) ∧ Below w.heap.size w w' := by
  have hBx : Below w.heap.size w (w.alloc (.cells #[.int .u64 V.id, .slice am V.ms.length cm, .slice al V.ls.length cl, .slice ad V.ds.length cd] 26)) := (Below.refl _ _).alloc (Nat.le_refl _) _
  have hVx := hV.ext hBx
  have hbx : ViewBox _ _ V am al ad cm cl cd := ViewBox.made w
  have hld := hV.ld
  go_enter Try.func16, Try.ntmps16
  go_wp2_with (go_at_call 63; refine (new_any _ _ _ _ hl (hrow.ext hBx)).mono ?_; rintro e w2 ⟨s, r, rfl, hs, hr, hS, hb2⟩; obtain ⟨e0, e1, e2, e3⟩ := hbx.ext hb2 (by simp))
  have hB2 : Below w.heap.size w w2 := hBx.trans (hb2.mono hBx.size)
  have hz2 := hb2.size
  simp at hz2
  have hV2 := hVx.ext hb2
  have hbx2 : ViewBox w2 w.heap.size V am al ad cm cl cd := ⟨e0, e1, e2, e3⟩
  clear hb2 hs hr hVx hbx hBx
  go_loopw [5, 14] (fun nv kv wr => ∃ (k n : Nat), k ≤ V.ds.length ∧ kv = .int .i64 k ∧ nv = .int .i64 n ∧ n ≤ k ∧ Hid (quoN V.ds l = n + quoFrom V.ds (unionL [] l) k (V.ds.drop k)) ∧ Below w2.heap.size w2 wr) (fun _ kv _ => V.ds.length - (intOf kv).toNat)
  case atStart => exact ⟨0, 0, Nat.zero_le _, rfl, rfl, Nat.le_refl _, (show quoN V.ds l = 0 + quoFrom V.ds (unionL [] l) 0 V.ds by rw [Nat.zero_add]; rfl), Below.refl _ _⟩
  case round =>
    obtain ⟨k, n, hk, rfl, rfl, hnk, hq, hb⟩ := hrel
    obtain ⟨e0, e1, e2, e3⟩ := hbx2.ext hb hbx2.lt
    have hSr := hS.ext hb
    have hdr := hV2.ds.ext hb
    have hzr := hb.size
    by_cases hkt : k < V.ds.length
    · obtain ⟨b, off, x, y, rfl, hx, d1, d2⟩ := hV2.ds.at hb rfl hkt
      have hd := quoFrom_drop (S := unionL [] l) hkt hx
      have hB1 : Below w2.heap.size w2 (wr.alloc (.cells #[.int .u16 x, .int .u32 y] 36)) := hb.alloc hzr _
      have hBr1 : Below wr.heap.size wr (wr.alloc (.cells #[.int .u16 x, .int .u32 y] 36)) := (Below.refl _ _).alloc (Nat.le_refl _) _
      obtain ⟨A, hA⟩ : ∃ A, atIx V.ds (x, y) = A := ⟨_, rfl⟩
      rw [hA] at hd
      have HA := hid hA
      have hw := World.block_lt_of_cell? w2 _ hbx2.c0
      simp only at hw
      clear hA hx
      cases hs : (look (x, y) (unionL [] l)).isSome
      · have HS := hid hs
        have HD : Hid (quoFrom V.ds (unionL [] l) k (V.ds.drop k) = quoFrom V.ds (unionL [] l) (k + 1) (V.ds.drop (k + 1))) := by rw [Hid, hd, hs]; simp
        clear hs hd
        go_wp2_with (first
          | (go_at_call 46; refine (has_any _ _ _ _ _ _ _ (hSr.alloc _) HS).mono ?_; rintro e w4 ⟨rfl, hb4⟩))
        go_roundw
        case rel => exact ⟨k + 1, n, by omega, by go_num, rfl, by omega, hq.out.trans (by rw [HD.out]), hB1.trans (hb4.mono hB1.size)⟩
        case measure => simp [intOf]; omega
      · have HS := hid hs
        by_cases hAk : A = (k : Int)
        · have hAk' : (A == (k : Int)) = true := by simpa using hAk
          have HD : Hid (quoFrom V.ds (unionL [] l) k (V.ds.drop k) = 1 + quoFrom V.ds (unionL [] l) (k + 1) (V.ds.drop (k + 1))) := by rw [Hid, hd, hs, hAk]; simp
          clear hs hd hAk
          go_wp2_with (first
            | (go_at_call 46; refine (has_any _ _ _ _ _ _ _ (hSr.alloc _) HS).mono ?_; rintro e w4 ⟨rfl, hb4⟩; obtain ⟨hc4, hf4⟩ := bcell hb4; obtain ⟨y0, y1, y2, y3⟩ := (ViewBox.mk e0 e1 e2 e3).ext (hBr1.trans (hb4.mono hBr1.size)) (by omega))
            | (go_at_call 67; refine (index_is HA hld (hdr.ext (hBr1.trans (hb4.mono hBr1.size)))).mono ?_; rintro e w5 ⟨rfl, hb5⟩))
          go_roundw
          case rel => exact ⟨k + 1, n + 1, by omega, by go_num, by go_num, by omega, hq.out.trans (by rw [HD.out]; omega), (hB1.trans (hb4.mono hB1.size)).trans (hb5.mono (by have := hb4.size; simp at this; omega))⟩
          case measure => simp [intOf]; omega
        · have hAk' : (A == (k : Int)) = false := by simpa using hAk
          have HD : Hid (quoFrom V.ds (unionL [] l) k (V.ds.drop k) = quoFrom V.ds (unionL [] l) (k + 1) (V.ds.drop (k + 1))) := by rw [Hid, hd, hs]; simp [hAk]
          clear hs hd hAk
          go_wp2_with (first
            | (go_at_call 46; refine (has_any _ _ _ _ _ _ _ (hSr.alloc _) HS).mono ?_; rintro e w4 ⟨rfl, hb4⟩; obtain ⟨hc4, hf4⟩ := bcell hb4; obtain ⟨y0, y1, y2, y3⟩ := (ViewBox.mk e0 e1 e2 e3).ext (hBr1.trans (hb4.mono hBr1.size)) (by omega))
            | (go_at_call 67; refine (index_is HA hld (hdr.ext (hBr1.trans (hb4.mono hBr1.size)))).mono ?_; rintro e w5 ⟨rfl, hb5⟩))
          go_roundw
          case rel => exact ⟨k + 1, n, by omega, by go_num, rfl, by omega, hq.out.trans (by rw [HD.out]), (hB1.trans (hb4.mono hB1.size)).trans (hb5.mono (by have := hb4.size; simp at this; omega))⟩
          case measure => simp [intOf]; omega
    · have hq2 : Hid (quoN V.ds l = n) := by
        have := hq.out
        rw [List.drop_eq_nil_of_le (by omega)] at this
        exact hid (by simpa [quoFrom] using this)
      go_wp2
      go_ret
      exact ⟨ret_bool (by unfold quorumB; rw [hq2.out]; simp; omega), hB2.trans (hb.mono hB2.size)⟩
end Go.Proofs.Ytjcgijchmnnfaaa
