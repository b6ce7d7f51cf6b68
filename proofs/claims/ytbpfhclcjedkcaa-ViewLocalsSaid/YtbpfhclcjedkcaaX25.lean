import Derived.Test.YtbpfhclcjedkcaaX24
import Derived.Test.YtbpfhclcjedkcaaX18
namespace Go.Proofs.Ytbpfhclcjedkcaa
open Go.RowKit

/-! ### view.Put's closure: a row as places -/
def rankS (S : List (Pid × Int)) (p : Pid) : List Nat := short ((look p S).getD 0).toNat
theorem take_flatS {S : List (Pid × Int)} {l : List Pid} {k : Nat} (h : k < l.length) {p : Pid} (hp : p = l[k]) : (l.take (k + 1)).flatMap (rankS S) = (l.take k).flatMap (rankS S) ++ rankS S p := by
  rw [List.take_succ_eq_append_getElem h, List.flatMap_append, hp]; simp
theorem flat_rankS_len {S : List (Pid × Int)} (hS : ∀ p, 0 ≤ (look p S).getD 0 ∧ (look p S).getD 0 < 4611686018427387904) : ∀ (l : List Pid), (l.flatMap (rankS S)).length ≤ l.length * 10
  | [] => by simp
  | p :: l => by
    have h1 := flat_rankS_len hS l
    have h2 : (rankS S p).length ≤ 10 := short_len10 (by have := (hS p).2; have := (hS p).1; omega)
    rw [List.flatMap_cons, List.length_append, List.length_cons]; omega
set_option maxRecDepth 100000 in
set_option maxHeartbeats 3200000 in
theorem putC_any {s g1 g2 r : Nat} {v : Value} {bs : List Nat} {S : List (Pid × Int)} {a : Option Addr} {c n : Nat} {l : List Pid} {w : World} (hW : WrIs w s v bs) (hl : bs.length ≤ 34359738368) (hn : Hid (l.length = n)) (hnl : n ≤ 1073741824)
    (hS : ∀ p, 0 ≤ (look p S).getD 0 ∧ (look p S).getD 0 < 4611686018427387904) (hrow : PidRow w a l) (hne : ∀ b off, a = some ⟨b, off, none⟩ → l ≠ [] → b ≠ s)
    (hp1 : w.cell? ⟨g1, 0, none⟩ = some (.pointer (some ⟨s, 0, none⟩))) (hp2 : w.cell? ⟨g2, 0, none⟩ = some (.map (some r))) (hM : MapIs w r pidV eI S) (h1 : g1 ≠ s) (h2 : g2 ≠ s) (hr : r ≠ s) :
    Calls Try.prog 183 #[.slice a n c, .pointer (some ⟨g1, 0, none⟩), .pointer (some ⟨g2, 0, none⟩)] w fun e w' => e = .returned (.tuple #[]) ∧ ∃ v', Wrote w w' s v' (bs ++ (short n ++ l.flatMap (rankS S))) := by
  have hln := short_len10 (n := n) (by omega)
  have C1 : Hid (Calls Try.prog 91 #[.pointer (some ⟨s, 0, none⟩), .int .u64 n] w fun e w' => e = .returned (.tuple #[]) ∧ ∃ v', Wrote w w' s v' (bs ++ short n)) := hid (wNum_any n hW (by omega) (by omega))
  have hs := hW.lt
  have hfl := flat_rankS_len hS
  have HFL := hid hfl
  have HSS := hid hS
  have HROW := hid hrow
  have HNE := hid hne
  have H1 := hid h1
  have H2 := hid h2
  have HRS := hid hr
  obtain ⟨B, hB⟩ : ∃ B, bs ++ short n = B := ⟨_, rfl⟩
  have hBl : B.length ≤ 34359738378 := by rw [← hB, List.length_append]; omega
  have HE : Hid (bs ++ (short n ++ l.flatMap (rankS S)) = B ++ l.flatMap (rankS S)) := hid (by rw [← hB, List.append_assoc])
  rw [hB] at C1
  have HM := hid hM
  have HP1 := hid hp1
  have HP2 := hid hp2
  have ewn : IntKind.u64.wrap ((n : Nat) : Int) = ((n : Nat) : Int) := by rw [IntKind.wrap_u64]; omega
  clear hrow hne hB hfl hS h1 h2 hr hM
  go_enter Try.func183, Try.ntmps183
  go_wp2_with (go_at_call 91; refine C1.out.mono ?_; rintro e w1 ⟨rfl, v1, hw1⟩)
  have HW1 := hid hw1
  clear hw1 ewn
  go_loopw [13] (fun i wr => ∃ (k : Nat) (vk : Value), k ≤ n ∧ i = .int .i64 k ∧ Hid (Wrote w wr s vk (B ++ (l.take k).flatMap (rankS S)))) (fun i _ => n - (intOf i).toNat)
  case atStart => exact ⟨0, v1, Nat.zero_le _, rfl, hid (by simpa using HW1.out)⟩
  case round =>
    obtain ⟨k, vk, hk, rfl, hWk⟩ := hrel
    by_cases hlt : k < n
    · have hlt' : decide (k < n) = true := by simpa using hlt
      have hkl : k < l.length := by rw [hn.out]; exact hlt
      obtain ⟨pb, po, x, y, rfl, hx, d1, d2⟩ := (HROW.out.mutT hWk.out.mt (fun b off h1 h2 => HNE.out b off h1 h2)).at (Below.refl _ _) rfl hkl
      obtain ⟨q, hq⟩ : ∃ q : Nat, (look (x, y) S).getD 0 = (q : Int) := ⟨((look (x, y) S).getD 0).toNat, by have := (HSS.out (x, y)).1; omega⟩
      have hq62 : q < 4611686018427387904 := by have := (HSS.out (x, y)).2; omega
      have HT : Hid (B ++ (l.take (k + 1)).flatMap (rankS S) = (B ++ (l.take k).flatMap (rankS S)) ++ short q) := hid (by rw [take_flatS hkl hx, rankS, hq]; simp)
      have hlen : (B ++ (l.take k).flatMap (rankS S)).length ≤ 68719476736 := by
        have h1 := HFL.out (l.take k)
        rw [List.length_take] at h1
        rw [List.length_append]; omega
      have hqq : Below wr.heap.size wr (wr.alloc (.cells #[.int .u16 x, .int .u32 y] 26)) := (Below.refl _ _).alloc (Nat.le_refl _) _
      have HQD := hid hqq.drew
      have C2 : Hid (Calls Try.prog 91 #[.pointer (some ⟨s, 0, none⟩), .int .u64 q] (wr.alloc (.cells #[.int .u16 x, .int .u32 y] 26)).drew fun e w' => e = .returned (.tuple #[]) ∧ ∃ v', Wrote (wr.alloc (.cells #[.int .u16 x, .int .u32 y] 26)).drew w' s v' (B ++ (l.take (k + 1)).flatMap (rankS S))) := hid (by rw [HT.out]; exact wNum_any q (hWk.out.wr.ext hqq.drew) (by omega) (by omega))
      have hsw : s < wr.heap.size := hWk.out.wr.lt
      have hMr : MapIs wr r pidV eI S := HM.out.same (hWk.out.mt.block r HM.out.lt HRS.out)
      have hc1 : wr.cell? ⟨g1, 0, none⟩ = some (.pointer (some ⟨s, 0, none⟩)) := cell_mut HP1.out hWk.out.mt H1.out
      have hc2 : wr.cell? ⟨g2, 0, none⟩ = some (.map (some r)) := cell_mut HP2.out hWk.out.mt H2.out
      have hne9 : wr.heap.size ≠ s := by omega
      have HS : Hid (∀ W, Mut (fun k => k = s) (wr.alloc (.cells #[.int .u16 x, .int .u32 y] 26)) W → W.cell? ⟨g1, 0, none⟩ = some (.pointer (some ⟨s, 0, none⟩)) ∧ W.cell? ⟨g2, 0, none⟩ = some (.map (some r)) ∧ W.cell? ⟨wr.heap.size, 0, none⟩ = some (.int .u16 x) ∧ W.cell? ⟨wr.heap.size, 1, none⟩ = some (.int .u32 y) ∧ MapIs W r pidV eI S) := hid fun W h =>
        ⟨cell_mut (cell_toB hc1 hqq) h H1.out, cell_mut (cell_toB hc2 hqq) h H2.out, cell_mut (by simp) h hne9, cell_mut (by simp) h hne9, (hMr.ext hqq).same (h.block r (hMr.ext hqq).lt HRS.out)⟩
      have hlk : ∀ W, MapIs W r pidV eI S → (Instr.lookup 134 (.map (some r)) (.agg #[.int .u16 x, .int .u32 y]) false).run Try.prog W = .ok (.int .i64 (q : Nat)) W := fun W h => by
        have := h.lookup_no keyPid Try.underlying134 (zero3 W) (x, y)
        rw [look_int, hq] at this
        exact this
      have ew : IntKind.u64.wrap ((q : Nat) : Int) = ((q : Nat) : Int) := by rw [IntKind.wrap_u64]; omega
      have HMD := hid ((Mut.refl (fun k => k = s) (wr.alloc (.cells #[.int .u16 x, .int .u32 y] 26))).drew)
      have HX := hid hx
      have HQ := hid hq
      clear hx hlen hMr hc1 hc2 hqq hq hq62
      go_wp2_with fail
      go_region_held3 (fun W => W.cell? ⟨g1, 0, none⟩ = some (.pointer (some ⟨s, 0, none⟩)) ∧ W.cell? ⟨g2, 0, none⟩ = some (.map (some r)) ∧ W.cell? ⟨wr.heap.size, 0, none⟩ = some (.int .u16 x) ∧ W.cell? ⟨wr.heap.size, 1, none⟩ = some (.int .u32 y) ∧ MapIs W r pidV eI S) (first | exact HS.out _ HMD.out | exact HS.out _ (by assumption)) (first
        | ((go_at_call 91; (with_reducible refine C2.out.mono ?_); rintro e w2 ⟨rfl, v2, hw2⟩; have hm2 := HMD.out.trans hw2.mt; have hw3 := hid (hWk.out.trans HQD.out hw2); clear hw2)))
      all_goals (
        clear ew hlk
        go_wp2
        go_roundw
        case rel => exact ⟨k + 1, v2, by omega, by go_num, hw3⟩
        case measure => simp [intOf]; omega)
    · have hlt' : decide (k < n) = false := by simpa using hlt
      have hend := hWk.out
      rw [List.take_of_length_le (by rw [hn.out]; omega), ← HE.out] at hend
      have HEND := hid hend
      clear hend
      go_wp2
      exact bodyPost_end (results_none rfl _ _ _) rfl ⟨rfl, _, HEND.out⟩
end Go.Proofs.Ytbpfhclcjedkcaa
