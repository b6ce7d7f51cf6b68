import Derived.Test.YtjcgijchmnnfaaaW3
namespace Go.Proofs.Ytjcgijchmnnfaaa
open Go.RowKit

/-- the members' ranks, as a map: in insertion order -/
def ranksFrom : List (Pid × Int) → List Pid → Nat → List (Pid × Int)
  | S, [], _ => S
  | S, p :: l, k => ranksFrom (if (look p S).isSome = true then S else ins p (k : Int) S) l (k + 1)
def ranksL (xs : List Pid) : List (Pid × Int) := ranksFrom [] xs 0
theorem ranksFrom_drop {S : List (Pid × Int)} {xs : List Pid} {k : Nat} (h : k < xs.length) {x y : Int} (hx : (x, y) = xs[k]) :
    ranksFrom S (xs.drop k) k = ranksFrom (if (look (x, y) S).isSome = true then S else ins (x, y) (k : Int) S) (xs.drop (k + 1)) (k + 1) := by
  rw [List.drop_eq_getElem_cons h, ← hx]; rfl

set_option maxRecDepth 100000 in
set_option maxHeartbeats 400000 in
theorem ranks_any (V : View) (am al ad : Option Addr) (cm cl cd : Nat) (w : World) (hV : ViewR w am al ad V) :
   Calls Try.prog 61 #[.agg #[.int .u64 V.id, .slice am V.ms.length cm, .slice al V.ls.length cl, .slice ad V.ds.length cd]] w fun e w' => ∃ r, e = .returned (.map (some r)) ∧ w.heap.size ≤ r ∧ Below w.heap.size w w' ∧ MapIs w' r pidV eI (ranksL V.ms) := by
  have hmm := @run_makeMap Try.prog
  have hn := hV.lm
  have hrow := hV.ms
  go_enter Try.func61, Try.ntmps61
  go_wp2
  go_loopw [12] (fun i wr => ∃ (k : Nat) (S : List (Pid × Int)), k ≤ V.ms.length ∧ i = .int .i64 k ∧ Hid (ranksL V.ms = ranksFrom S (V.ms.drop k) k) ∧ Below w.heap.size w wr ∧ w.heap.size + 1 < wr.heap.size ∧ MapIs wr (w.heap.size + 1) pidV eI S) (fun i _ => V.ms.length - (intOf i).toNat)
  case atStart => exact ⟨0, [], Nat.zero_le _, rfl, rfl, ((Below.refl _ _).alloc (Nat.le_refl _) _).alloc (by simp) _, by simp, MapIs.made' _ (by simp)⟩
  case round =>
    obtain ⟨k, S, hk, rfl, ha, hb, hz, hM⟩ := hrel
    by_cases hlt : k < V.ms.length
    · obtain ⟨b, off, x, y, rfl, hx, d1, d2⟩ := hrow.at hb rfl hlt
      have hd := ranksFrom_drop (S := S) hlt hx
      have HX := hid hx
      clear hx hrow hV
      have hB1 : Below w.heap.size w (wr.alloc (.cells #[.int .u16 x, .int .u32 y] 36)) := hb.alloc hb.size _
      cases hs : (look (x, y) S).isSome
      · have HS := hid hs
        have HD := hid hd
        clear hs hd
        go_wp2_with (first
          | (at_lookup; refine wpList_lookup_is keyPid Try.underlying81 (.int .i64 0) zero3 (hM.alloc _) (x, y) _ (look_int _ _) HS rfl rfl rfl rfl ?_)
          | (at_mapUpdate; refine wpList_mapUpdate_is keyPid Try.underlying81 (hM.alloc _) (x, y) (k : Int) rfl rfl rfl rfl rfl ?_; intro w2 hM2 hbut))
        go_roundw
        case rel => exact ⟨k + 1, _, by omega, by go_num, (ha.out.trans (by rw [HD.out, HS.out]; rfl) : _), hB1.trans (hbut.below (by omega)), by have := hbut.size; simp at this; omega, hM2⟩
        case measure => simp [intOf]; omega
      · have HS := hid hs
        have HD := hid hd
        clear hs hd
        go_wp2_with (first
          | (at_lookup; refine wpList_lookup_is keyPid Try.underlying81 (.int .i64 0) zero3 (hM.alloc _) (x, y) _ (look_int _ _) HS rfl rfl rfl rfl ?_))
        go_roundw
        case rel => exact ⟨k + 1, _, by omega, by go_num, (ha.out.trans (by rw [HD.out, HS.out]; rfl) : _), hB1, by simp; omega, hM.alloc _⟩
        case measure => simp [intOf]; omega
    · go_wp2
      go_ret
      exact ⟨_, rfl, by omega, hb, by rw [ha.out, List.drop_eq_nil_of_le (by omega)]; exact hM⟩

/-- risingFrom: the rest of 'rising' -/
def risFrom (S : List (Pid × Int)) : Int → List Pid → Bool
  | _, [] => true
  | last, p :: l => match look p S with
    | none => false
    | some k => if k ≤ last then false else risFrom S k l
theorem risFrom_drop {S : List (Pid × Int)} {last : Int} {xs : List Pid} {k : Nat} (h : k < xs.length) {x y : Int} (hx : (x, y) = xs[k]) :
    risFrom S last (xs.drop k) = match look (x, y) S with | none => false | some k' => if k' ≤ last then false else risFrom S k' (xs.drop (k + 1)) := by
  rw [List.drop_eq_getElem_cons h, ← hx]; rfl

set_option maxRecDepth 100000 in
set_option maxHeartbeats 400000 in
theorem rising_any (r : Nat) (S : List (Pid × Int)) (a : Option Addr) (c : Nat) (xs : List Pid) (w : World) (hn : xs.length ≤ 70368744177664) (hrow : PidRow w a xs) (hM0 : MapIs w r pidV eI S) :
   Calls Try.prog 62 #[.map (some r), .slice a xs.length c] w fun e w' => e = .returned (.bool (risFrom S (-1) xs)) ∧ Below w.heap.size w w' := by
  go_enter Try.func62, Try.ntmps62
  go_wp2
  go_loopw [4, 5, 12] (fun rs l i wr => rs = .bool false ∧ ∃ (k : Nat) (last : Int), k ≤ xs.length ∧ i = .int .i64 k ∧ l = .int .i64 last ∧ Hid (risFrom S (-1) xs = risFrom S last (xs.drop k)) ∧ Below w.heap.size w wr) (fun _ _ i _ => xs.length - (intOf i).toNat)
  case atStart => exact ⟨rfl, 0, -1, Nat.zero_le _, rfl, rfl, rfl, Below.refl _ _⟩
  case round =>
    obtain ⟨rfl, k, last, hk, rfl, rfl, ha, hb⟩ := hrel
    by_cases hlt : k < xs.length
    · obtain ⟨b, off, x, y, rfl, hx, d1, d2⟩ := hrow.at hb rfl hlt
      have hd := risFrom_drop (S := S) (last := last) hlt hx
      have HX := hid hx
      clear hx hrow
      have hM : MapIs wr r pidV eI S := hM0.same (hb.block _ hM0.lt)
      have hB1 : Below w.heap.size w (wr.alloc (.cells #[.int .u16 x, .int .u32 y] 36)) := hb.alloc hb.size _
      rcases hs : look (x, y) S with _ | q
      · have HS := hid (show (look (x, y) S).isSome = false by rw [hs]; rfl)
        have HL : Hid (look (x, y) S = none) := hs
        have HD := hid hd
        clear hs hd
        go_wp2_with (first
          | (at_lookup; refine wpList_lookup_is keyPid Try.underlying81 (.int .i64 0) zero3 (hM.alloc _) (x, y) (.int .i64 0) (by rw [HL.out]; rfl) HS rfl rfl rfl rfl ?_))
        go_ret
        exact ⟨ret_bool (by rw [ha.out, HD.out, HL.out]), hB1⟩
      · have HS := hid (show (look (x, y) S).isSome = true by rw [hs]; rfl)
        have HL : Hid (look (x, y) S = some q) := hs
        have HD := hid hd
        clear hs hd
        by_cases hq : q ≤ last
        · go_wp2_with (first
            | (at_lookup; refine wpList_lookup_is keyPid Try.underlying81 (.int .i64 0) zero3 (hM.alloc _) (x, y) (.int .i64 q) (by rw [HL.out]; rfl) HS rfl rfl rfl rfl ?_))
          go_ret
          exact ⟨ret_bool (by rw [ha.out, HD.out, HL.out]; simp [hq]), hB1⟩
        · go_wp2_with (first
            | (at_lookup; refine wpList_lookup_is keyPid Try.underlying81 (.int .i64 0) zero3 (hM.alloc _) (x, y) (.int .i64 q) (by rw [HL.out]; rfl) HS rfl rfl rfl rfl ?_))
          go_roundw
          case rel => exact ⟨rfl, k + 1, q, by omega, by go_num, rfl, (ha.out.trans (by rw [HD.out, HL.out]; simp [hq]) : _), hB1⟩
          case measure => simp [intOf]; omega
    · go_wp2
      go_ret
      exact ⟨ret_bool (by rw [ha.out, List.drop_eq_nil_of_le (by omega)]; rfl), hb⟩
end Go.Proofs.Ytjcgijchmnnfaaa
