import Derived.Test.YtjjahefedpfnaaaDoorR3
namespace Go.Proofs.YtjjahefedpfnaaaDoor
open Go.RowKit
def smallV : View := ⟨1, [(1, 1), (2, 1), (3, 1)], [[(1, 1), (3, 1)], [(2, 1)]], [(1, 1), (2, 1)]⟩

theorem PidRow.two (w : World) (x1 y1 x2 y2 : Int) : PidRow (w.alloc (.cells #[.int .u16 x1, .int .u32 y1, .int .u16 x2, .int .u32 y2] 30)) (some ⟨w.heap.size, 0, none⟩) [(x1, y1), (x2, y2)] :=
  .inr ⟨_, 0, rfl, by simp, fun i hi => by
    match i, hi with
    | 0, _ => exact ⟨by simp, by simp⟩
    | 1, _ => exact ⟨by simp, by simp⟩⟩
theorem PidRow.three (w : World) (x1 y1 x2 y2 x3 y3 : Int) : PidRow (w.alloc (.cells #[.int .u16 x1, .int .u32 y1, .int .u16 x2, .int .u32 y2, .int .u16 x3, .int .u32 y3] 30)) (some ⟨w.heap.size, 0, none⟩) [(x1, y1), (x2, y2), (x3, y3)] :=
  .inr ⟨_, 0, rfl, by simp, fun i hi => by
    match i, hi with
    | 0, _ => exact ⟨by simp, by simp⟩
    | 1, _ => exact ⟨by simp, by simp⟩
    | 2, _ => exact ⟨by simp, by simp⟩⟩
theorem PidRow.one' (w : World) {b : Nat} (h : b = w.heap.size) (x y : Int) : PidRow (w.alloc (.cells #[.int .u16 x, .int .u32 y] 30)) (some ⟨b, 0, none⟩) [(x, y)] := by subst h; exact PidRow.one _ _ _
theorem PidRow.two' (w : World) {b : Nat} (h : b = w.heap.size) (x1 y1 x2 y2 : Int) : PidRow (w.alloc (.cells #[.int .u16 x1, .int .u32 y1, .int .u16 x2, .int .u32 y2] 30)) (some ⟨b, 0, none⟩) [(x1, y1), (x2, y2)] := by subst h; exact PidRow.two _ _ _ _ _
theorem PidRow.three' (w : World) {b : Nat} (h : b = w.heap.size) (x1 y1 x2 y2 x3 y3 : Int) : PidRow (w.alloc (.cells #[.int .u16 x1, .int .u32 y1, .int .u16 x2, .int .u32 y2, .int .u16 x3, .int .u32 y3] 30)) (some ⟨b, 0, none⟩) [(x1, y1), (x2, y2), (x3, y3)] := by subst h; exact PidRow.three _ _ _ _ _ _ _
theorem LeafRow.two' (w : World) {b : Nat} (h : b = w.heap.size) {a1 a2 : Option Addr} {l1 l2 : List Pid} {c1 c2 : Nat} (h1 : PidRow w a1 l1) (h2 : PidRow w a2 l2) {n1 n2 : Nat} (e1 : n1 = l1.length) (e2 : n2 = l2.length) :
    LeafRow (w.alloc (.cells #[.slice a1 n1 c1, .slice a2 n2 c2] 22)) (some ⟨b, 0, none⟩) [l1, l2] := by
  subst h e1 e2
  exact .inr ⟨_, 0, rfl, by simp, fun i hi => by
    match i, hi with
    | 0, _ => exact ⟨a1, c1, by simp, h1.ext ((Below.refl _ _).alloc (Nat.le_refl _) _)⟩
    | 1, _ => exact ⟨a2, c2, by simp, h2.ext ((Below.refl _ _).alloc (Nat.le_refl _) _)⟩⟩
theorem LeafRow.alloc {w : World} {a : Option Addr} {xs : List (List Pid)} (h : LeafRow w a xs) (o : Obj) : LeafRow (w.alloc o) a xs := h.ext ((Below.refl _ _).alloc (Nat.le_refl _) _)
theorem PidRow.alloc {w : World} {a : Option Addr} {xs : List Pid} (h : PidRow w a xs) (o : Obj) : PidRow (w.alloc o) a xs := h.ext ((Below.refl _ _).alloc (Nat.le_refl _) _)

end Go.Proofs.YtjjahefedpfnaaaDoor
