import Derived.Test.YtbpfhclcjedkcaaR3
namespace Go.Proofs.Ytbpfhclcjedkcaa
open Go.RowKit
def smallV : View := ⟨1, [(1, 1), (2, 1), (3, 1)], [[(1, 1), (3, 1)], [(2, 1)]], [(1, 1), (2, 1)]⟩

set_option maxRecDepth 100000 in
set_option maxHeartbeats 800000 in
theorem leaf_any (V : View) (am al ad : Option Addr) (cm cl cd : Nat) (x y : Int) (w : World) (hV : ViewR w am al ad V) :
   Calls Try.prog 78 #[.agg #[.int .u64 V.id, .slice am V.ms.length cm, .slice al V.ls.length cl, .slice ad V.ds.length cd], .agg #[.int .u16 x, .int .u32 y]] w fun e w' => e = .returned (.int .i64 (leafIx V.ls (x, y))) ∧ Below w.heap.size w w' := by
  have hB2 : Below w.heap.size w ((w.alloc (.cells #[.int .u64 V.id, .slice am V.ms.length cm, .slice al V.ls.length cl, .slice ad V.ds.length cd] 33)).alloc (.cells #[.int .u16 x, .int .u32 y] 26)) := ((Below.refl _ _).alloc (Nat.le_refl _) _).alloc (by simp) _
  have hV2 := hV.ext hB2
  have k0 : ((w.alloc (.cells #[.int .u64 V.id, .slice am V.ms.length cm, .slice al V.ls.length cl, .slice ad V.ds.length cd] 33)).alloc (.cells #[.int .u16 x, .int .u32 y] 26)).cell? ⟨w.heap.size + 1, 0, none⟩ = some (.int .u16 x) := by simp
  have k1 : ((w.alloc (.cells #[.int .u64 V.id, .slice am V.ms.length cm, .slice al V.ls.length cl, .slice ad V.ds.length cd] 33)).alloc (.cells #[.int .u16 x, .int .u32 y] 26)).cell? ⟨w.heap.size + 1, 1, none⟩ = some (.int .u32 y) := by simp
  go_enter Try.func78, Try.ntmps78
  go_wp2_with (go_at_call 175; go_loud (refine (indexFunc_any _ _ _ _ _ _ _ hV.ll hV.le hV2.ls k0 k1).mono ?_); rintro e w3 ⟨rfl, hb3⟩)
  go_ret
  exact ⟨rfl, hB2.trans (hb3.mono (by simp; omega))⟩

theorem PidRow.two (w : World) (x1 y1 x2 y2 : Int) : PidRow (w.alloc (.cells #[.int .u16 x1, .int .u32 y1, .int .u16 x2, .int .u32 y2] 26)) (some ⟨w.heap.size, 0, none⟩) [(x1, y1), (x2, y2)] :=
  .inr ⟨_, 0, rfl, by simp, fun i hi => by
    match i, hi with
    | 0, _ => exact ⟨by simp, by simp⟩
    | 1, _ => exact ⟨by simp, by simp⟩⟩
theorem PidRow.three (w : World) (x1 y1 x2 y2 x3 y3 : Int) : PidRow (w.alloc (.cells #[.int .u16 x1, .int .u32 y1, .int .u16 x2, .int .u32 y2, .int .u16 x3, .int .u32 y3] 26)) (some ⟨w.heap.size, 0, none⟩) [(x1, y1), (x2, y2), (x3, y3)] :=
  .inr ⟨_, 0, rfl, by simp, fun i hi => by
    match i, hi with
    | 0, _ => exact ⟨by simp, by simp⟩
    | 1, _ => exact ⟨by simp, by simp⟩
    | 2, _ => exact ⟨by simp, by simp⟩⟩
theorem PidRow.one' (w : World) {b : Nat} (h : b = w.heap.size) (x y : Int) : PidRow (w.alloc (.cells #[.int .u16 x, .int .u32 y] 26)) (some ⟨b, 0, none⟩) [(x, y)] := by subst h; exact PidRow.one _ _ _
theorem PidRow.two' (w : World) {b : Nat} (h : b = w.heap.size) (x1 y1 x2 y2 : Int) : PidRow (w.alloc (.cells #[.int .u16 x1, .int .u32 y1, .int .u16 x2, .int .u32 y2] 26)) (some ⟨b, 0, none⟩) [(x1, y1), (x2, y2)] := by subst h; exact PidRow.two _ _ _ _ _
theorem PidRow.three' (w : World) {b : Nat} (h : b = w.heap.size) (x1 y1 x2 y2 x3 y3 : Int) : PidRow (w.alloc (.cells #[.int .u16 x1, .int .u32 y1, .int .u16 x2, .int .u32 y2, .int .u16 x3, .int .u32 y3] 26)) (some ⟨b, 0, none⟩) [(x1, y1), (x2, y2), (x3, y3)] := by subst h; exact PidRow.three _ _ _ _ _ _ _
theorem LeafRow.two' (w : World) {b : Nat} (h : b = w.heap.size) {a1 a2 : Option Addr} {l1 l2 : List Pid} {c1 c2 : Nat} (h1 : PidRow w a1 l1) (h2 : PidRow w a2 l2) {n1 n2 : Nat} (e1 : n1 = l1.length) (e2 : n2 = l2.length) :
    LeafRow (w.alloc (.cells #[.slice a1 n1 c1, .slice a2 n2 c2] 30)) (some ⟨b, 0, none⟩) [l1, l2] := by
  subst h e1 e2
  exact .inr ⟨_, 0, rfl, by simp, fun i hi => by
    match i, hi with
    | 0, _ => exact ⟨a1, c1, by simp, h1.ext ((Below.refl _ _).alloc (Nat.le_refl _) _)⟩
    | 1, _ => exact ⟨a2, c2, by simp, h2.ext ((Below.refl _ _).alloc (Nat.le_refl _) _)⟩⟩
theorem LeafRow.alloc {w : World} {a : Option Addr} {xs : List (List Pid)} (h : LeafRow w a xs) (o : Obj) : LeafRow (w.alloc o) a xs := h.ext ((Below.refl _ _).alloc (Nat.le_refl _) _)
theorem PidRow.alloc {w : World} {a : Option Addr} {xs : List Pid} (h : PidRow w a xs) (o : Obj) : PidRow (w.alloc o) a xs := h.ext ((Below.refl _ _).alloc (Nat.le_refl _) _)

end Go.Proofs.Ytbpfhclcjedkcaa
