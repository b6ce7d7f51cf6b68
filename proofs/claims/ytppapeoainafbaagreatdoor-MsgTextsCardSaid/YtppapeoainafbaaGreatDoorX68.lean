/- Parts of the proof: X68. -/
import Derived.Test.YtppapeoainafbaaGreatDoorX66
namespace Go.Proofs.YtppapeoainafbaaGreatDoor
open Go.RowKit
/-! ### the reference's Fields, has, noCmd, Great -/
def lettB (i : Nat) : UInt8 := [119, 118, 115, 98, 110, 104, 112, 99, 86, 121].getD i 0
def fstr (k : Int) : ByteArray := ⟨((ltrs k).map lettB).toArray⟩
def hasS (s : ByteArray) (c : Nat) : Bool := s.data.toList.any fun b => b.toNat == c
theorem hasS_hb (k : Int) {i : Nat} (hi : i < 10) : hasS (fstr k) (lettB i).toNat = hb k i := by
  rw [hb_ltrs k hi]
  have key : ∀ (l : List Nat), (∀ j : Fin 10, hasS ⟨(l.map lettB).toArray⟩ (lettB j).toNat = l.contains j.val) → hasS ⟨(l.map lettB).toArray⟩ (lettB i).toNat = l.contains i := fun l h => h ⟨i, hi⟩
  have hl : ltrs k ∈ [[], [0, 1, 4, 5, 9], [2, 5, 7], [2], [2, 3], [2, 3, 6], [2, 3, 7], [1, 5], [0, 1, 4, 5], [0, 5], [2, 8, 9], [1]] := by
    rcases kinds k with rfl | rfl | rfl | rfl | rfl | rfl | rfl | rfl | rfl | rfl | rfl | rfl | rfl | rfl | ⟨-, -, e⟩
    all_goals first
      | decide
      | (rw [e]; decide)
  unfold fstr
  generalize ltrs k = l at hl
  simp only [List.mem_cons, List.not_mem_nil, or_false] at hl
  rcases hl with rfl | rfl | rfl | rfl | rfl | rfl | rfl | rfl | rfl | rfl | rfl | rfl <;> exact key _ (by decide)
theorem hasS_take {s : ByteArray} {c k : Nat} (h : k < s.size) : (s.data.toList.take (k + 1)).any (fun b => b.toNat == c) = ((s.data.toList.take k).any (fun b => b.toNat == c) || (s[k].toNat == c)) := by
  have e : s.data.toList.take (k + 1) = s.data.toList.take k ++ [s[k]] := by
    rw [List.take_succ_eq_append_getElem (by simpa using h)]; rfl
  rw [e, List.any_append]; simp
set_option maxHeartbeats 800000 in
theorem hasR_any (s : ByteArray) (c : Nat) (w : World) (hs : s.size ≤ 1000) : Calls Tryz.prog 34 #[.string s, .int .u8 c] w fun e w' => e = .returned (.bool (hasS s c)) ∧ w = w' := by
  go_enter Tryz.func34, Tryz.ntmps34
  go_wp2
  go_loop [5] (fun i => ∃ k : Nat, k ≤ s.size ∧ i = .int .i64 k ∧ (s.data.toList.take k).any (fun b => b.toNat == c) = false) (fun i => s.size - (intOf i).toNat)
  case atStart => exact ⟨0, Nat.zero_le _, rfl, by simp⟩
  case round =>
    obtain ⟨k, hk, rfl, hno⟩ := hrel
    by_cases hlt : k < s.size
    · have hst := hasS_take (c := c) hlt
      by_cases hc : s[k].toNat = c
      · have t1 : ((s[k].toNat : Int) == (c : Int)) = true := by rw [beq_iff_eq]; omega
        have HY : Hid (hasS s c = true) := hid (by
          unfold hasS
          rw [List.any_eq_true]
          exact ⟨s[k], by show s.data[k] ∈ _; simp, by simpa using hc⟩)
        clear hst hno hc
        go_wp2
        go_ret
        exact ⟨by rw [HY.out]; rfl, rfl⟩
      · have t1 : ((s[k].toNat : Int) == (c : Int)) = false := by rw [beq_eq_false_iff_ne]; omega
        have HN : Hid ((s.data.toList.take (k + 1)).any (fun b => b.toNat == c) = false) := hid (by rw [hst, hno]; simpa using hc)
        clear hst hno hc
        go_wp2
        go_round
        case rel => exact ⟨k + 1, by omega, by go_num, HN.out⟩
        case measure => simp [intOf]; omega
    · have HN : Hid (hasS s c = false) := hid (by
        have e : s.data.toList.take k = s.data.toList := List.take_of_length_le (by simp; omega)
        rw [e] at hno; exact hno)
      clear hno
      go_wp2
      go_ret
      exact ⟨by rw [HN.out]; rfl, rfl⟩
set_option maxRecDepth 100000 in
set_option maxHeartbeats 6400000 in
theorem fieldsR_any (k : Int) (w : World) : Calls Tryz.prog 33 #[.int .i64 k] w fun e w' => e = .returned (.string (fstr k)) ∧ Below w.heap.size w w' := by
  rcases kinds k with rfl | rfl | rfl | rfl | rfl | rfl | rfl | rfl | rfl | rfl | rfl | rfl | rfl | rfl | ⟨h, -, h2⟩
  all_goals first
    | (go_enter Tryz.func33, Tryz.ntmps33
       go_wp2
       go_ret
       exact ⟨rfl, (Below.refl _ _).alloc (Nat.le_refl _) _⟩)
    | skip
  have HE : Hid (fstr k = ⟨#[]⟩) := hid (by unfold fstr; rw [h2]; rfl)
  by_cases h1 : k < 1
  · have t1 : decide (k < 1) = true := by simpa using h1
    clear h h2 h1
    go_enter Tryz.func33, Tryz.ntmps33
    go_wp2
    go_ret
    exact ⟨by rw [HE.out]; rfl, Below.refl _ _⟩
  · have t1 : decide (k < 1) = false := by simpa using h1
    have t2 : decide (k > 14) = true := by simp; omega
    have t3 : decide (14 < k) = true := by simp; omega
    clear h h2 h1
    go_enter Tryz.func33, Tryz.ntmps33
    go_wp2
    go_ret
    exact ⟨by rw [HE.out]; rfl, Below.refl _ _⟩
theorem noCmd_any {A : MA} {c : CmdD} {w : World} {r : Bool} (h : Hid (sameC c zeroC = r)) (hA : CmdR w A.da A.am A.al A.ad c) :
    Calls Tryz.prog 79 #[.agg (cmdV A c)] w fun e w' => e = .returned (.bool r) ∧ Below w.heap.size w w' := by
  obtain ⟨W1, hW1⟩ : ∃ W1, w.alloc (.cells (cmdV A c) 35) = W1 := ⟨_, rfl⟩
  have hB1 : Below w.heap.size w W1 := by rw [← hW1]; exact (Below.refl _ _).alloc (Nat.le_refl _) _
  have xr : W1.rangeAt w.heap.size 0 (cmdV A c).toList := by
    rw [← hW1]
    intro j v hv
    rw [Nat.zero_add]
    have : (w.alloc (.cells (cmdV A c) 35)).cell? ⟨w.heap.size, j, none⟩ = (cmdV A c)[j]? := by rw [World.cell?_alloc_mark]
    rw [this]; simpa using hv
  have S := hid (by
    have h1 := cmdSameR_any (A := c) (B := zeroC) (dc := A.dc) (cm := A.cm) (cl := A.cl) (cd := A.cd) (db := none) (bm := none) (bl := none) (bd := none) (ec := 0) (em := 0) (el := 0) (ed := 0) (hA.ext hB1) ⟨.inl rfl, Nat.zero_le _, (fun b hb => by simp [zeroC] at hb), viewR_zero W1⟩
    rw [h.out] at h1; exact h1 : Calls Tryz.prog 42 #[.agg (cmdV A c), .agg #[.int .i64 0, .int .u16 0, .int .u32 0, .int .u64 0, .int .u64 0, .slice none 0 0, .int .u64 0, .slice none 0 0, .slice none 0 0, .slice none 0 0]] W1 fun e w' => e = .returned (.bool r) ∧ Below W1.heap.size W1 w')
  have HB1 := hid hB1
  clear hA hB1
  go_enter Tryz.func79, Tryz.ntmps79
  go_wp2_with (first
    | (refine wpList_load_mid rfl 35 _ rfl w.heap.size 0 rfl (cmdV A c).toList _ xr Tryz.underlying35 rfl infoC ?_)
    | (go_at_call 42; (with_reducible refine S.out.mono ?_); rintro e w3 ⟨rfl, hb3⟩))
  go_ret
  exact ⟨rfl, HB1.out.trans (hb3.mono HB1.out.size)⟩
/-- is more in a message than is looked at? -/
def greatM (m : MsgD) : Bool := decide (400 < m.y.length) || (greatC m.c || greatB m.v)
theorem greatM_no {m : MsgD} (h : greatM m = false) : m.y.length ≤ 400 ∧ greatC m.c = false ∧ greatB m.v = false := by
  unfold greatM at h
  simp only [Bool.or_eq_false_iff, decide_eq_false_iff_not] at h
  exact ⟨by omega, h.2.1, h.2.2⟩
end Go.Proofs.YtppapeoainafbaaGreatDoor

