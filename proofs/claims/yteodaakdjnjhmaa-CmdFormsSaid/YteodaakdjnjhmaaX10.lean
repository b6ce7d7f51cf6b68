import Derived.Test.YteodaakdjnjhmaaX9
import Derived.Test.YteodaakdjnjhmaaBA
namespace Go.Proofs.Yteodaakdjnjhmaa
open Go.RowKit
theorem PidRow.mutT {G : Nat → Prop} {w w' : World} {a : Option Addr} {l : List Pid} (h : PidRow w a l) (hm : Mut G w w') (hne : ∀ b off, a = some ⟨b, off, none⟩ → l ≠ [] → ¬ G b) : PidRow w' a l := by
  rcases h with rfl | ⟨b, off, rfl, hlt, hc⟩
  · exact .inl rfl
  · by_cases hl : l = []
    · exact .inl hl
    · have hb := hm.block b hlt (hne b off rfl hl)
      exact .inr ⟨b, off, rfl, by have := hm.size; omega, fun i hi => ⟨(World.cell?_of_block (w := w) hb).trans (hc i hi).1, (World.cell?_of_block (w := w) hb).trans (hc i hi).2⟩⟩
theorem Wrote.trans {w w1 w1' w2 : World} {s : Nat} {v1 v2 : Value} {b1 b2 : List Nat} (h : Wrote w w1 s v1 b1) (hb : Below w1.heap.size w1 w1') (h2 : Wrote w1' w2 s v2 b2) : Wrote w w2 s v2 b2 :=
  ⟨h2.wr, h2.own.mono (Nat.le_trans h.mt.size hb.size), (h.mt.trans (Mut.of_below hb)).trans h2.mt⟩
theorem pidF_nat (x y : Nat) : pidF ((x : Int), (y : Int)) = short x ++ short y := by simp [pidF]
theorem pidF_len {p : Pid} (h : okP p) : (pidF p).length ≤ 20 := by
  have h1 := short_len10 (n := p.1.toNat) (by have := h.2.1; have := h.1; omega)
  have h2 := short_len10 (n := p.2.toNat) (by have := h.2.2.2; omega)
  unfold pidF; rw [List.length_append]; omega
theorem flat_pidF_len : ∀ {l : List Pid}, (∀ p ∈ l, okP p) → (l.flatMap pidF).length ≤ l.length * 20
  | [], _ => by simp
  | p :: l, h => by
    have h1 := pidF_len (h p (List.mem_cons_self ..))
    have h2 := flat_pidF_len (l := l) (fun q hq => h q (List.mem_cons_of_mem _ hq))
    rw [List.flatMap_cons, List.length_append, List.length_cons]; omega
theorem take_flat {l : List Pid} {k : Nat} (h : k < l.length) {p : Pid} (hp : p = l[k]) : (l.take (k + 1)).flatMap pidF = (l.take k).flatMap pidF ++ pidF p := by
  rw [List.take_succ_eq_append_getElem h, List.flatMap_append, hp]; simp
theorem nat_pid {x y : Int} (h : okP (x, y)) : ∃ x' y' : Nat, x = (x' : Int) ∧ y = (y' : Int) ∧ x' < 65536 ∧ y' < 4294967296 := by
  obtain ⟨h1, h2, h3, h4⟩ := h
  exact ⟨x.toNat, y.toNat, by simp at *; omega, by simp at *; omega, by simp at *; omega, by simp at *; omega⟩
set_option maxRecDepth 100000 in
set_option maxHeartbeats 1600000 in
theorem wPids_any {s : Nat} {v : Value} {bs : List Nat} {a : Option Addr} {c n : Nat} {l : List Pid} {w : World} (hW : WrIs w s v bs) (hl : bs.length ≤ 34359738368) (hn : Hid (l.length = n)) (hnl : n ≤ 1073741824) (hok : ∀ p ∈ l, okP p) (hrow : PidRow w a l) (hne : ∀ b off, a = some ⟨b, off, none⟩ → l ≠ [] → b ≠ s) :
    Calls Try.prog 88 #[.pointer (some ⟨s, 0, none⟩), .slice a n c] w fun e w' => e = .returned (.tuple #[]) ∧ ∃ v', Wrote w w' s v' (bs ++ pidsF l) := by
  have hln := short_len10 (n := n) (by omega)
  have C1 : Hid (Calls Try.prog 82 #[.pointer (some ⟨s, 0, none⟩), .int .u64 n] w fun e w' => e = .returned (.tuple #[]) ∧ ∃ v', Wrote w w' s v' (bs ++ short n)) := hid (wNum_any n hW (by omega) (by omega))
  have hs := hW.lt
  have HOK := hid hok
  have hfl := flat_pidF_len hok
  have HROW := hid hrow
  have HNE := hid hne
  obtain ⟨B, hB⟩ : ∃ B, bs ++ short n = B := ⟨_, rfl⟩
  have hBl : B.length ≤ 34359738378 := by rw [← hB, List.length_append]; omega
  have HE : Hid (bs ++ pidsF l = B ++ l.flatMap pidF) := hid (by unfold pidsF; rw [hn.out, ← hB, List.append_assoc])
  rw [hB] at C1
  clear hok hrow hne hB
  go_enter Try.func88, Try.ntmps88
  go_wp2_with (go_at_call 82; refine C1.out.mono ?_; rintro e w1 ⟨rfl, v1, hw1⟩)
  have HW1 := hid hw1
  clear hw1
  go_loopw [13] (fun i wr => ∃ (k : Nat) (vk : Value), k ≤ n ∧ i = .int .i64 k ∧ Hid (Wrote w wr s vk (B ++ (l.take k).flatMap pidF))) (fun i _ => n - (intOf i).toNat)
  case atStart => exact ⟨0, v1, Nat.zero_le _, rfl, hid (by simpa using HW1.out)⟩
  case round =>
    obtain ⟨k, vk, hk, rfl, hWk⟩ := hrel
    by_cases hlt : k < n
    · have hlt' : decide (k < n) = true := by simpa using hlt
      have hkl : k < l.length := by rw [hn.out]; exact hlt
      obtain ⟨pb, po, x, y, rfl, hx, d1, d2⟩ := (HROW.out.mutT hWk.out.mt (fun b off h1 h2 => HNE.out b off h1 h2)).at (Below.refl _ _) rfl hkl
      obtain ⟨x', y', rfl, rfl, hx', hy'⟩ := nat_pid (show okP (x, y) by rw [hx]; exact HOK.out _ (List.getElem_mem _))
      have HT : Hid (B ++ (l.take (k + 1)).flatMap pidF = (B ++ (l.take k).flatMap pidF) ++ (short x' ++ short y')) := hid (by rw [take_flat hkl hx, pidF_nat]; simp)
      have hlen : (B ++ (l.take k).flatMap pidF).length ≤ 68719476736 := by
        have h1 : ((l.take k).flatMap pidF).length ≤ (l.take k).length * 20 := flat_pidF_len (fun p hp => HOK.out p (List.mem_of_mem_take hp))
        rw [List.length_take] at h1
        rw [List.length_append]; omega
      have hq : Below wr.heap.size wr (wr.alloc (.cells #[.int .u16 x', .int .u32 y'] 26)) := (Below.refl _ _).alloc (Nat.le_refl _) _
      have C2 : Hid (Calls Try.prog 83 #[.pointer (some ⟨s, 0, none⟩), .agg #[.int .u16 x', .int .u32 y']] (wr.alloc (.cells #[.int .u16 x', .int .u32 y'] 26)) fun e w' => e = .returned (.tuple #[]) ∧ ∃ v', Wrote (wr.alloc (.cells #[.int .u16 x', .int .u32 y'] 26)) w' s v' (B ++ (l.take (k + 1)).flatMap pidF)) := hid (by rw [HT.out]; exact wPid_any x' y' (hWk.out.wr.ext hq) hlen hx' hy')
      clear hx hlen
      go_wp2_with (go_at_call 83; refine C2.out.mono ?_; rintro e w2 ⟨rfl, v2, hw2⟩; have hw3 := hid (hWk.out.trans hq hw2); clear hw2)
      go_roundw
      case rel => exact ⟨k + 1, v2, by omega, by go_num, hw3⟩
      case measure => simp [intOf]; omega
    · have hlt' : decide (k < n) = false := by simpa using hlt
      have hend := hWk.out
      rw [List.take_of_length_le (by rw [hn.out]; omega), ← HE.out] at hend
      have HEND := hid hend
      clear hend
      go_wp2
      exact bodyPost_end (results_none rfl _ _ _) rfl ⟨rfl, _, HEND.out⟩
set_option maxRecDepth 100000 in
set_option maxHeartbeats 800000 in
theorem wDone_any {s : Nat} {v : Value} {bs : List Nat} {w : World} (hW : WrIs w s v bs) (hl : bs.length ≤ 137438953472) :
    Calls Try.prog 27 #[.pointer (some ⟨s, 0, none⟩)] w fun e w' => ∃ v', e = .returned v' ∧ OwnB w' w.heap.size v' bs ∧ Below w.heap.size w w' := by
  obtain ⟨a, c, rfl, hrow, -⟩ := hW.own.row
  obtain ⟨n, hn⟩ : ∃ n, bs.length = n := ⟨_, rfl⟩
  rw [hn] at hW hl
  have c0 := hW.c
  have HN := hid hn
  clear hn
  go_enter Try.func27, Try.ntmps27
  go_wp2_with (go_at_call 85; refine (cloneB_any HN (by omega) hrow).mono ?_; rintro e w1 ⟨v1, rfl, hown1, hb1⟩)
  go_ret
  exact ⟨_, rfl, hown1, hb1⟩
/-! ### the reference's forms -/
set_option maxRecDepth 100000 in
theorem numR_any {w : World} (m : Nat) (hm : m < 18446744073709551616) :
    Calls Try.prog 102 #[.int .u64 m] w fun e w' => ∃ v, e = .returned v ∧ OwnB w' w.heap.size v (short m) ∧ Below w.heap.size w w' := by
  go_enter Try.func102, Try.ntmps102
  go_wp2_with (go_at_call 145; refine (shortR_any m hm).mono ?_; rintro e w1 ⟨v1, rfl, hown1, hb1⟩)
  go_ret
  exact ⟨_, rfl, hown1, hb1⟩
set_option maxRecDepth 100000 in
set_option maxHeartbeats 1600000 in
theorem bytesR_any {a : Option Addr} {c n : Nat} {ds : List Nat} {w : World} (hn : Hid (ds.length = n)) (hl : n ≤ 68719476736) (hrow : ByteRow w a ds) :
    Calls Try.prog 107 #[.slice a n c] w fun e w' => ∃ v, e = .returned v ∧ OwnB w' w.heap.size v (short n ++ ds) ∧ Below w.heap.size w w' := by
  have hln := short_len10 (n := n) (by omega)
  obtain ⟨X, hX⟩ : ∃ X, short n = X := ⟨_, rfl⟩
  have C1 : Hid (Calls Try.prog 102 #[.int .u64 n] w fun e w' => ∃ v, e = .returned v ∧ OwnB w' w.heap.size v X ∧ Below w.heap.size w w') := hid (by rw [← hX]; exact numR_any n (by omega))
  rw [hX] at hln ⊢
  clear hX
  go_enter Try.func107, Try.ntmps107
  go_wp2_with (first
    | (go_at_call 102; refine C1.out.mono ?_; rintro e w1 ⟨v1, rfl, hown1, hb1⟩; have HR := hid (hrow.ext hb1))
    | (at_builtin; refine wpList_appendB hown1 HR.out hn (by omega) hb1.size rfl rfl rfl rfl ?_; intro v2 w2 hown2 hg2 hat2))
  go_ret
  exact ⟨_, rfl, hown2, below_of_grown hb1 hg2 hown1 hb1.size (Nat.le_refl _)⟩
theorem pidPutR_is {w : World} {x y N : Nat} {F : List Nat} (hF : Hid (short x ++ short y = F)) (hN : Hid (F.length = N)) (hx : x < 65536) (hy : y < 4294967296) :
    Calls Try.prog 103 #[.agg #[.int .u16 x, .int .u32 y]] w fun e w' => ∃ a' c', e = .returned (.slice a' N c') ∧ ByteRow w' a' F ∧ Below w.heap.size w w' := by
  refine (pidPutR_any x y hx hy).mono ?_
  rintro e w' ⟨v, rfl, hown, hb⟩
  rw [hF.out] at hown
  obtain ⟨a', c', rfl, hr, -⟩ := hown.row
  rw [hN.out]
  exact ⟨a', c', rfl, hr, hb⟩
set_option maxRecDepth 100000 in
set_option maxHeartbeats 1600000 in
theorem pidsR_any {a : Option Addr} {c n : Nat} {l : List Pid} {w : World} (hn : Hid (l.length = n)) (hnl : n ≤ 1073741824) (hok : ∀ p ∈ l, okP p) (hrow : PidRow w a l) :
    Calls Try.prog 120 #[.slice a n c] w fun e w' => ∃ v, e = .returned v ∧ OwnB w' w.heap.size v (pidsF l) ∧ Below w.heap.size w w' := by
  have hln := short_len10 (n := n) (by omega)
  have HOK := hid hok
  have HE : Hid (pidsF l = short n ++ l.flatMap pidF) := hid (by unfold pidsF; rw [hn.out])
  obtain ⟨X, hX⟩ : ∃ X, short n = X := ⟨_, rfl⟩
  have C1 : Hid (Calls Try.prog 102 #[.int .u64 n] w fun e w' => ∃ v, e = .returned v ∧ OwnB w' w.heap.size v X ∧ Below w.heap.size w w') := hid (by rw [← hX]; exact numR_any n (by omega))
  rw [hX] at hln HE
  have HROW := hid hrow
  clear hX hok hrow
  go_enter Try.func120, Try.ntmps120
  go_wp2_with (go_at_call 102; refine C1.out.mono ?_; rintro e w1 ⟨v1, rfl, hown1, hb1⟩)
  go_loopw [3, 4] (fun v i wr => ∃ k : Nat, k ≤ n ∧ i = .int .i64 k ∧ OwnB wr w.heap.size v (X ++ (l.take k).flatMap pidF) ∧ Below w.heap.size w wr) (fun _ i _ => n - (intOf i).toNat)
  case atStart => exact ⟨0, Nat.zero_le _, rfl, by simpa using hown1, hb1⟩
  case round =>
    obtain ⟨k, hk, rfl, hown, hb⟩ := hrel
    have hsz := hb.size
    by_cases hlt : k < n
    · have hlt' : decide (k < n) = true := by simpa using hlt
      have hkl : k < l.length := by rw [hn.out]; exact hlt
      obtain ⟨pb, po, x, y, rfl, hx, d1, d2⟩ := (HROW.out.ext hb).at (Below.refl _ _) rfl hkl
      obtain ⟨x', y', rfl, rfl, hx', hy'⟩ := nat_pid (show okP (x, y) by rw [hx]; exact HOK.out _ (List.getElem_mem _))
      obtain ⟨F, hF⟩ : ∃ F, short x' ++ short y' = F := ⟨_, rfl⟩
      obtain ⟨NF, hNF⟩ : ∃ NF, F.length = NF := ⟨_, rfl⟩
      have hNl : NF ≤ 20 := by
        have h1 := short_len10 (n := x') (by omega)
        have h2 := short_len10 (n := y') (by omega)
        rw [← hNF, ← hF, List.length_append]; omega
      obtain ⟨E, hEk⟩ : ∃ E, X ++ (l.take k).flatMap pidF = E := ⟨_, rfl⟩
      have HT : Hid (X ++ (l.take (k + 1)).flatMap pidF = E ++ F) := hid (by rw [take_flat hkl hx, pidF_nat, ← hEk, hF]; simp)
      have hlen : E.length ≤ 68719476736 := by
        have h1 : ((l.take k).flatMap pidF).length ≤ (l.take k).length * 20 := flat_pidF_len (fun p hp => HOK.out p (List.mem_of_mem_take hp))
        rw [List.length_take] at h1
        rw [← hEk, List.length_append]; omega
      rw [hEk] at hown
      have HF := hid hF
      have HNF := hid hNF
      clear hx hF hNF hEk
      go_wp2_with (first
        | (go_at_call 103; refine (pidPutR_is HF HNF hx' hy').mono ?_; rintro e w2 ⟨a2, c2, rfl, hr2, hb2⟩)
        | (at_builtin; refine wpList_appendB (hown.ext hb2) hr2 HNF (by omega) (by have := hb2.size; omega) rfl rfl rfl rfl ?_; intro v3 w3 hown3 hg3 hat3))
      have hB2 := hb.trans (hb2.mono hsz)
      have hB3 : Below w.heap.size w w3 := below_of_grown hB2 hg3 (hown.ext hb2) hB2.size (Nat.le_refl _)
      go_roundw
      case rel => exact ⟨k + 1, by omega, by go_num, by rw [HT.out]; exact hown3, hB3⟩
      case measure => simp [intOf]; omega
    · have hlt' : decide (k < n) = false := by simpa using hlt
      rw [List.take_of_length_le (by rw [hn.out]; omega), ← HE.out] at hown
      go_wp2
      go_ret
      exact ⟨_, rfl, hown, hb⟩
end Go.Proofs.Yteodaakdjnjhmaa
