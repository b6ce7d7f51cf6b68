import Derived.Test.YtbpfhclcjedkcaaR2
namespace Go.Proofs.Ytbpfhclcjedkcaa
open Go.RowKit

def greatB (V : View) : Bool := decide (40 < V.ms.length) || (decide (40 < V.ls.length) || (decide (40 < V.ds.length) || V.ls.any fun l => decide (40 < l.length)))
theorem any_drop {ls : List (List Pid)} {k : Nat} (h : k < ls.length) {l : List Pid} (hl : l = ls[k]) (f : List Pid → Bool) : (ls.drop k).any f = (f l || (ls.drop (k + 1)).any f) := by
  rw [List.drop_eq_getElem_cons h, List.any_cons, ← hl]

set_option maxRecDepth 100000 in
set_option maxHeartbeats 800000 in
theorem great_any (V : View) (am al ad : Option Addr) (cm cl cd : Nat) (w : World) (hV : ViewR w am al ad V) :
   Calls Try.prog 18 #[.agg #[.int .u64 V.id, .slice am V.ms.length cm, .slice al V.ls.length cl, .slice ad V.ds.length cd]] w fun e w' => e = .returned (.bool (greatB V)) ∧ Below w.heap.size w w' := by
  have hBx : Below w.heap.size w (w.alloc (.cells #[.int .u64 V.id, .slice am V.ms.length cm, .slice al V.ls.length cl, .slice ad V.ds.length cd] 33)) := (Below.refl _ _).alloc (Nat.le_refl _) _
  have hVx := hV.ext hBx
  have hbx : ViewBox _ _ V am al ad cm cl cd := ViewBox.made w
  have hll := hV.ll
  by_cases g1 : 40 < V.ms.length
  · have k1 : decide (40 < (V.ms.length : Int)) = true := by simp; omega
    go_enter Try.func18, Try.ntmps18
    go_wp2
    go_ret
    exact ⟨ret_bool (by unfold greatB; rw [decide_eq_true g1]; rfl), hBx⟩
  · have k1 : decide (40 < (V.ms.length : Int)) = false := by simp; omega
    by_cases g2 : 40 < V.ls.length
    · have k2 : decide (40 < (V.ls.length : Int)) = true := by simp; omega
      go_enter Try.func18, Try.ntmps18
      go_wp2
      go_ret
      exact ⟨ret_bool (by unfold greatB; rw [decide_eq_false (by omega), decide_eq_true g2]; rfl), hBx⟩
    · have k2 : decide (40 < (V.ls.length : Int)) = false := by simp; omega
      by_cases g3 : 40 < V.ds.length
      · have k3 : decide (40 < (V.ds.length : Int)) = true := by simp; omega
        go_enter Try.func18, Try.ntmps18
        go_wp2
        go_ret
        exact ⟨ret_bool (by unfold greatB; rw [decide_eq_false (by omega), decide_eq_false (by omega), decide_eq_true g3]; rfl), hBx⟩
      · have k3 : decide (40 < (V.ds.length : Int)) = false := by simp; omega
        have hsp0 : Hid (greatB V = V.ls.any fun l => decide (40 < l.length)) := by
          unfold greatB Hid
          rw [decide_eq_false g1, decide_eq_false g2, decide_eq_false g3]; rfl
        go_enter Try.func18, Try.ntmps18
        go_wp2
        go_loop [2, 3] (fun rs kv => rs = .bool false ∧ ∃ k : Nat, k ≤ V.ls.length ∧ kv = .int .i64 k ∧ Hid (greatB V = (V.ls.drop k).any fun l => decide (40 < l.length))) (fun _ kv => V.ls.length - (intOf kv).toNat)
        case atStart => exact ⟨rfl, 0, Nat.zero_le _, rfl, hsp0⟩
        case round =>
          obtain ⟨rfl, k, hk, rfl, hsp⟩ := hrel
          by_cases hkt : k < V.ls.length
          · obtain ⟨bl, ofl, ai, ci, l, hal, hxl, f1, f2⟩ := hVx.ls.at (Below.refl _ _) rfl hkt
            subst hal
            have hd := any_drop hkt hxl (fun l => decide (40 < l.length))
            have HD := hid hd
            clear hd hxl
            by_cases hl : 40 < l.length
            · go_wp2
              go_ret
              exact ⟨ret_bool (by rw [hsp.out, HD.out, decide_eq_true hl]; rfl), hBx⟩
            · go_wp2
              go_round
              case rel => exact ⟨rfl, k + 1, by omega, by go_num, hsp.out.trans (by rw [HD.out, decide_eq_false (by omega)]; rfl)⟩
              case measure => simp [intOf]; omega
          · go_wp2
            go_ret
            exact ⟨ret_bool (by rw [hsp.out, List.drop_eq_nil_of_le (by omega)]; rfl), hBx⟩

theorem great_is {V : View} {am al ad : Option Addr} {cm cl cd : Nat} {w : World} {bm : Bool} (h : Hid (greatB V = bm)) (hV : ViewR w am al ad V) :
   Calls Try.prog 18 #[.agg #[.int .u64 V.id, .slice am V.ms.length cm, .slice al V.ls.length cl, .slice ad V.ds.length cd]] w fun e w' => e = .returned (.bool bm) ∧ Below w.heap.size w w' := by
  have := great_any V am al ad cm cl cd w hV
  rw [h.out] at this
  exact this

/-! ### Quorum, Leaf, Rank -/
/-- how many of the leaders from place k on are among S, each at its first place -/
def quoFrom (ds : List Pid) (S : List (Pid × Unit)) : Nat → List Pid → Nat
  | _, [] => 0
  | k, p :: r => (if (look p S).isSome = true ∧ atIx ds p = (k : Int) then 1 else 0) + quoFrom ds S (k + 1) r
def quoN (ds l : List Pid) : Nat := quoFrom ds (unionL [] l) 0 ds
def quorumB (V : View) (l : List Pid) : Bool := decide (V.ds.length / 2 < quoN V.ds l)
theorem quoFrom_drop {ds : List Pid} {S : List (Pid × Unit)} {k : Nat} (h : k < ds.length) {x y : Int} (hx : (x, y) = ds[k]) :
    quoFrom ds S k (ds.drop k) = (if (look (x, y) S).isSome = true ∧ atIx ds (x, y) = (k : Int) then 1 else 0) + quoFrom ds S (k + 1) (ds.drop (k + 1)) := by
  rw [List.drop_eq_getElem_cons h, ← hx]; rfl
theorem quoFrom_le (ds : List Pid) (S : List (Pid × Unit)) : ∀ (r : List Pid) (k : Nat), quoFrom ds S k r ≤ r.length
  | [], _ => Nat.le_refl _
  | p :: r, k => by
    have := quoFrom_le ds S r (k + 1)
    unfold quoFrom
    simp only [List.length_cons]
    split <;> omega
theorem index_is {a : Option Addr} {c : Nat} {xs : List Pid} {id inc : Int} {w : World} {A : Int} (h : Hid (atIx xs (id, inc) = A)) (hn : xs.length ≤ 70368744177664) (hrow : PidRow w a xs) :
   Calls Try.prog 174 #[.slice a xs.length c, .agg #[.int .u16 id, .int .u32 inc]] w fun e w' => e = .returned (.int .i64 A) ∧ Below w.heap.size w w' := by
  have := index_any a c xs id inc w hn hrow
  rw [h.out] at this
  exact this

end Go.Proofs.Ytbpfhclcjedkcaa
