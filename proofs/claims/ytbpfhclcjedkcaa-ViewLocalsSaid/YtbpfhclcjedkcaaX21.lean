import Derived.Test.YtbpfhclcjedkcaaX20
import Derived.Test.YtbpfhclcjedkcaaX17
import Derived.Test.YtbpfhclcjedkcaaX6
import Derived.Lib.Bytes
namespace Go.Proofs.Ytbpfhclcjedkcaa
open Go.RowKit

/-! ### bytes.Equal, cmd.counted, pid.May; a command in its box -/
def numsB (bs : List Nat) : List Int := bs.map fun b : Nat => Int.ofNat b
theorem bytesOf_inj : ∀ {xs ys : List Nat}, (∀ b ∈ xs, b < 256) → (∀ b ∈ ys, b < 256) → (Lib.bytesOf (numsB xs) = Lib.bytesOf (numsB ys) ↔ xs = ys)
  | [], [], _, _ => by simp
  | x :: xs, [], _, _ => by simp [Lib.bytesOf, numsB]
  | [], y :: ys, _, _ => by simp [Lib.bytesOf, numsB]
  | x :: xs, y :: ys, hx, hy => by
    have ih := bytesOf_inj (xs := xs) (ys := ys) (fun b hb => hx b (by simp [hb])) (fun b hb => hy b (by simp [hb]))
    have h1 := hx x (by simp)
    have h2 := hy y (by simp)
    have hu : UInt8.ofNat x = UInt8.ofNat y ↔ x = y := by
      constructor
      · intro h
        have := congrArg UInt8.toNat h
        simp at this
        omega
      · rintro rfl; rfl
    simp only [Lib.bytesOf, numsB, List.map_cons, List.cons.injEq, Int.toNat_natCast, Int.ofNat_eq_natCast] at ih ⊢
    rw [hu, ih]
theorem run_conv_byte {a : Option Addr} {c n : Nat} {xs : List Nat} {w : World} (hn : xs.length = n) (hx : ByteRow w a xs) :
    (convert 42 9 (.slice a n c)).run Try.prog w = .ok (.string (strOfNums (numsB xs))) w := by
  have hs : Try.prog.underlying 42 = some (.slice 5) := by kernel_rfl
  have he : Try.prog.underlying 5 = some (.int .u8) := by kernel_rfl
  have hd : Try.prog.underlying 9 = some .string := by kernel_rfl
  subst hn
  rcases hx with rfl | ⟨b, off, rfl, hlt, hc⟩
  · rw [show strOfNums (numsB []) = ByteArray.empty from rfl, List.length_nil]
    rw [run_convert_bytes_string w 42 9 5 _ 0 c hs he hd]
    cases a <;> simp [Conv.bytesToString, loadCells]
    all_goals rfl
  · exact run_convert_bytes_arg (P := Try.prog) w 42 5 hs he b off xs.length c (numsB xs) (by simp [numsB]) (fun i hi => by rw [hc i hi]; simp [numsB, List.getD, List.getElem?_eq_getElem hi]) 9 hd

set_option maxRecDepth 100000 in
set_option maxHeartbeats 800000 in
theorem bEqual_any {a b : Option Addr} {ca cb n m : Nat} {xs ys : List Nat} {w : World} (hn : Hid (xs.length = n)) (hm : Hid (ys.length = m)) (hbx : ∀ b ∈ xs, b < 256) (hby : ∀ b ∈ ys, b < 256) (hx : ByteRow w a xs) (hy : ByteRow w b ys) :
   Calls Try.prog 141 #[.slice a n ca, .slice b m cb] w fun e w' => e = .returned (.bool (decide (xs = ys))) ∧ w' = w := by
  have g1 := run_conv_byte (c := ca) hn.out hx
  have g2 := run_conv_byte (c := cb) hm.out hy
  have hr : ((strOfNums (numsB xs)).toList == (strOfNums (numsB ys)).toList) = decide (xs = ys) := by
    rw [Lib.strOfNums_toList, Lib.strOfNums_toList, Bool.eq_iff_iff]
    simp [bytesOf_inj hbx hby]
  have HR := hid hr
  clear hr hn hm hx hy hbx hby
  go_enter Try.func141, Try.ntmps141
  go_wp2
  go_ret
  exact ⟨ret_bool HR.out, rfl⟩
theorem bEqual_is {a b : Option Addr} {ca cb n m : Nat} {xs ys : List Nat} {w : World} {r : Bool} (h : Hid (decide (xs = ys) = r)) (hn : Hid (xs.length = n)) (hm : Hid (ys.length = m)) (hbx : ∀ b ∈ xs, b < 256) (hby : ∀ b ∈ ys, b < 256) (hx : ByteRow w a xs) (hy : ByteRow w b ys) :
   Calls Try.prog 141 #[.slice a n ca, .slice b m cb] w fun e w' => e = .returned (.bool r) ∧ w' = w := by
  have := bEqual_any (ca := ca) (cb := cb) (w := w) hn hm hbx hby hx hy
  rw [h.out] at this; exact this

set_option maxRecDepth 100000 in
set_option maxHeartbeats 800000 in
theorem counted_any (n : Nat) (w : World) : Calls Try.prog 186 #[.int .u64 n] w fun e w' => e = .returned (.bool (cntB n)) ∧ w' = w := by
  by_cases h1 : 1 ≤ n
  · have h1' : decide ((n : Int) ≥ 1) = true := by simp; omega
    have h1'' : decide ((1 : Int) ≤ n) = true := by simp; omega
    by_cases h2 : n ≤ 4611686018427387904
    · have h2' : decide ((n : Int) ≤ 4611686018427387904) = true := by simp; omega
      have HR : Hid (cntB n = true) := by unfold cntB Hid; simp [h1, h2]
      clear h1 h2
      go_enter Try.func186, Try.ntmps186
      go_wp2
      go_ret
      exact ⟨ret_bool HR.out.symm, rfl⟩
    · have h2' : decide ((n : Int) ≤ 4611686018427387904) = false := by simp; omega
      have HR : Hid (cntB n = false) := by unfold cntB Hid; simp [h1, h2]
      clear h1 h2
      go_enter Try.func186, Try.ntmps186
      go_wp2
      go_ret
      exact ⟨ret_bool HR.out.symm, rfl⟩
  · have h1' : decide ((n : Int) ≥ 1) = false := by simp; omega
    have h1'' : decide ((1 : Int) ≤ n) = false := by simp; omega
    have HR : Hid (cntB n = false) := by unfold cntB Hid; simp [h1]
    clear h1
    go_enter Try.func186, Try.ntmps186
    go_wp2
    go_ret
    exact ⟨ret_bool HR.out.symm, rfl⟩

set_option maxRecDepth 100000 in
set_option maxHeartbeats 800000 in
theorem mayP_any (x y : Int) (hy : 0 ≤ y) (w : World) : Calls Try.prog 105 #[.agg #[.int .u16 x, .int .u32 y]] w fun e w' => e = .returned (.bool (mayP (x, y))) ∧ Below w.heap.size w w' := by
  by_cases h1 : x < 16
  · have h1' : decide (x < 16) = true := by simpa using h1
    by_cases h2 : y = 0
    · have h2' : (y != 0) = false := by simp [h2]
      have HR : Hid (mayP (x, y) = false) := by unfold mayP Hid; simp [h1, h2]
      clear h1 h2 hy
      go_enter Try.func105, Try.ntmps105
      go_wp2
      go_ret
      exact ⟨ret_bool HR.out.symm, (Below.refl _ _).alloc (Nat.le_refl _) _⟩
    · have h2' : (y != 0) = true := by simp [h2]
      have HR : Hid (mayP (x, y) = true) := by unfold mayP Hid; simp [h1]; omega
      clear h1 h2 hy
      go_enter Try.func105, Try.ntmps105
      go_wp2
      go_ret
      exact ⟨ret_bool HR.out.symm, (Below.refl _ _).alloc (Nat.le_refl _) _⟩
  · have h1' : decide (x < 16) = false := by simpa using h1
    have HR : Hid (mayP (x, y) = false) := by unfold mayP Hid; simp [h1]
    clear h1 hy
    go_enter Try.func105, Try.ntmps105
    go_wp2
    go_ret
    exact ⟨ret_bool HR.out.symm, (Below.refl _ _).alloc (Nat.le_refl _) _⟩
end Go.Proofs.Ytbpfhclcjedkcaa
