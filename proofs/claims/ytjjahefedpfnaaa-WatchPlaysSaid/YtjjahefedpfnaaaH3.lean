import Derived.Test.YtjjahefedpfnaaaH2
import Derived.Test.YtjjahefedpfnaaaN2
namespace Go.Proofs.Ytjjahefedpfnaaa
open Go.RowKit

theorem heard_is {s r : Nat} {T : Int} {L : List (Pid × Int)} {x y : Int} {w : World} {b : Bool} {L' : List (Pid × Int)} (hb : (look (x, y) L).isSome = b) (hL : (if (look (x, y) L).isSome = true then ins (x, y) 0 L else L) = L') (hW : WatchIs w s r T L) (hpos : ∀ p ∈ L, 0 ≤ p.2) :
   Calls Try.prog 20 #[.pointer (some ⟨s, 0, none⟩), .agg #[.int .u16 x, .int .u32 y]] w fun e w' => e = .returned (.bool b) ∧ WatchIs w' s r T L' ∧ Mut (fun k => k = r) w w' := by
  have := heard_any s r T L x y w hW hpos
  rw [hL, hb] at this
  exact this
theorem tick_is {s r : Nat} {T : Int} {L L' : List (Pid × Int)} {w : World} (hL : tickL T L = L') (hW : WatchIs w s r T L) (hnd : (keys L).Nodup) (hb : ∀ p ∈ L, 0 ≤ p.2 ∧ p.2 ≤ 4611686018427387904) :
   Calls Try.prog 21 #[.pointer (some ⟨s, 0, none⟩)] w fun e w' => e = .returned (.tuple #[]) ∧ WatchIs w' s r T L' ∧ Mut (fun k => k = r) w w' := by
  have := tick_any s r T L w hW hnd hb
  rw [hL] at this
  exact this
theorem late_is {s r : Nat} {T : Int} {L : List (Pid × Int)} {l : List Pid} {w : World} (hl : sortL (lateL T L) = l) (hW : WatchIs w s r T L) (hnd : (keys L).Nodup) (hok : ∀ p ∈ keys L, ok p) (hn : L.length ≤ 549755813888) :
   Calls Try.prog 25 #[.pointer (some ⟨s, 0, none⟩)] w fun e w' => ∃ a c, e = .returned (.slice a l.length c) ∧ PidRow w' a l ∧ Below w.heap.size w w' := by
  refine (late_any s r T L w hW hnd hok hn).mono ?_
  rintro e w' ⟨v, rfl, hown, hb⟩
  rw [hl] at hown
  obtain ⟨a, c, rfl, hrow, -⟩ := hown.row
  exact ⟨a, c, rfl, hrow, hb⟩
theorem follow_is {s r : Nat} {T : Int} {L : List (Pid × Int)} {a : Option Addr} {c : Nat} {xs : List Pid} {L' : List (Pid × Int)} {w : World} (hL : followL L [] xs = L') (hn : xs.length ≤ 70368744177664) (hrow : PidRow w a xs) (hW : WatchIs w s r T L) :
   Calls Try.prog 17 #[.pointer (some ⟨s, 0, none⟩), .slice a xs.length c] w fun e w' => ∃ r', e = .returned (.tuple #[]) ∧ w.heap.size ≤ r' ∧ WatchIs w' s r' T L' ∧ Mut (fun k => k = s) w w' := by
  have := follow_any s r T L a c xs w hn hrow hW
  rw [hL] at this
  exact this

set_option maxRecDepth 100000 in
set_option maxHeartbeats 3200000 in
theorem awakeWatch_any (w : World) : Calls Try.prog 15 #[] w fun e w' => e = .returned (.bool true) ∧ Below w.heap.size w w' := by
  have okl : ∀ {n : Int}, ∀ p ∈ keys ([((1, 1), n)] : List (Pid × Int)), ok p := by simp [keys, ok]
  have ndl : ∀ {n : Int}, (keys ([((1, 1), n)] : List (Pid × Int))).Nodup := by simp [keys]
  have t1 : tickL (max 2 1) [((1, 1), 0)] = [((1, 1), 1)] := by decide
  have t2 : tickL (max 2 1) [((1, 1), 1)] = [((1, 1), 2)] := by decide
  have l1 : sortL (lateL (max 2 1) [((1, 1), 1)]) = [] := by rw [show lateL (max 2 1) [((1, 1), 1)] = [] by decide]; simp [sortL]
  have l2 : sortL (lateL (max 2 1) [((1, 1), 2)]) = [(1, 1)] := by rw [show lateL (max 2 1) [((1, 1), 2)] = [(1, 1)] by decide]; simp [sortL]
  have l3 : sortL (lateL (max 2 1) [((1, 1), 0)]) = [] := by rw [show lateL (max 2 1) [((1, 1), 0)] = [] by decide]; simp [sortL]
  have OKL := @hid _ @okl
  have NDL := @hid _ @ndl
  have T1 := hid t1
  have T2 := hid t2
  have L1 := hid l1
  have L2 := hid l2
  have L3 := hid l3
  clear okl ndl t1 t2 l1 l2 l3
  go_enter Try.func15, Try.ntmps15
  go_wp2_with (go_at_call 14; refine (newWatch_any _ _).mono ?_; rintro e w1 ⟨s, r, rfl, hs, hr, hW1, hb1⟩)
  refine (one_any _).mono ?_
  rintro e w2 ⟨rfl, hb2⟩
  have hs2 := hb1.size
  have hs3 := hb2.size
  go_wp2_with fail
  refine (follow_is (L' := [((1, 1), 0)]) (by decide) (by decide) (PidRow.one _ 1 1) ((hW1.ext hb2).alloc _)).mono ?_
  rintro e w3 ⟨r3, rfl, hr3, hW3, hm3⟩
  have hb3 : Below w.heap.size w w3 := (((hb1.trans (hb2.mono hs2)).alloc (by omega) _)).trans (hm3.below (by simp; omega) (fun k hk => by omega))
  have hr3' : w.heap.size ≤ r3 := by simp at hr3; omega
  clear hm3 hr3 hb1 hb2 hs2 hs3 hW1 hr
  go_wp2_with fail
  refine (tick_is T1.out hW3 NDL.out (by simp)).mono ?_
  rintro e w4 ⟨rfl, hW4, hm4⟩
  have hb4 : Below w.heap.size w w4 := hb3.trans (hm4.below hb3.size (fun k hk => by omega))
  clear hm4 hb3
  go_wp2_with fail
  refine (late_is L1.out hW4 NDL.out OKL.out (by decide)).mono ?_
  rintro e w5 ⟨a5, c5, rfl, hrow5, hb5⟩
  have hW5 := hW4.ext hb5
  have hB5 : Below w.heap.size w w5 := hb4.trans (hb5.mono hb4.size)
  clear hb5 hb4
  go_wp2_with fail
  refine (tick_is T2.out hW5 NDL.out (by simp)).mono ?_
  rintro e w6 ⟨rfl, hW6, hm6⟩
  have hb6 : Below w.heap.size w w6 := hB5.trans (hm6.below hB5.size (fun k hk => by omega))
  clear hm6 hB5
  go_wp2_with fail
  refine (late_is L2.out hW6 NDL.out OKL.out (by decide)).mono ?_
  rintro e w7 ⟨a7, c7, rfl, hrow7, hb7⟩
  have hW7 := hW6.ext hb7
  have hB7 : Below w.heap.size w w7 := hb6.trans (hb7.mono hb6.size)
  clear hb7 hb6
  go_wp2_with fail
  refine (one_any _).mono ?_
  rintro e w8 ⟨rfl, hb8⟩
  have hW8 := hW7.ext hb8
  have hB8 : Below w.heap.size w w8 := hB7.trans (hb8.mono hB7.size)
  have hrow8 := hrow7.ext hb8
  clear hb8 hB7 hrow7
  go_wp2_with fail
  refine (sameR_is (xs := [(1, 1)]) (ys := [(1, 1)]) (bm := true) (hid (by decide)) (by decide) (by decide) (hrow8.alloc _) (PidRow.one _ 1 1)).mono ?_
  rintro e w9 ⟨rfl, hb9⟩
  have hW9 := (hW8.alloc (.cells #[.int .u16 1, .int .u32 1] 32)).ext hb9
  have hB9 : Below w.heap.size w w9 := (hB8.alloc hB8.size _).trans (hb9.mono (by have := hB8.size; simp; omega))
  clear hb9 hB8 hrow8
  go_wp2_with fail
  refine (one_any _).mono ?_
  rintro e w10 ⟨rfl, hb10⟩
  have hW10 := hW9.ext hb10
  have hB10 : Below w.heap.size w w10 := hB9.trans (hb10.mono hB9.size)
  clear hb10 hB9
  go_wp2_with fail
  refine (heard_is (b := true) (L' := [((1, 1), 0)]) (by decide) (by decide) hW10 (by simp)).mono ?_
  rintro e w11 ⟨rfl, hW11, hm11⟩
  have hB11 : Below w.heap.size w w11 := hB10.trans (hm11.below hB10.size (fun k hk => by omega))
  clear hm11 hB10
  go_wp2_with fail
  refine (late_is L3.out hW11 NDL.out OKL.out (by decide)).mono ?_
  rintro e w12 ⟨a12, c12, rfl, hrow12, hb12⟩
  go_wp2
  go_ret
  exact ⟨rfl, hB11.trans (hb12.mono hB11.size)⟩
end Go.Proofs.Ytjjahefedpfnaaa
