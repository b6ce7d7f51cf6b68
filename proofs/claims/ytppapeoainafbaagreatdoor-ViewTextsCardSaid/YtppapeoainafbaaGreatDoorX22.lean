/- Parts of the proof: X22. -/
import Derived.Lib.Bytes
import Derived.Test.YtppapeoainafbaaGreatDoorGViewTexts2
namespace Go.Proofs.YtppapeoainafbaaGreatDoor
open Go.RowKit

/-! ### a command in its box; cmd.Same and the reference's -/
def cmdL (da am al ad : Option Addr) (dc cm cl cd : Nat) (c : CmdD) : Array Value :=
  #[.int .i64 c.kind, .int .u16 c.fr.1, .int .u32 c.fr.2, .int .u64 c.num, .int .u64 c.vw, .slice da c.data.length dc, .int .u64 c.v.id, .slice am c.v.ms.length cm, .slice al c.v.ls.length cl, .slice ad c.v.ds.length cd]
structure CmdR (w : World) (da am al ad : Option Addr) (c : CmdD) : Prop where
  dr : ByteRow w da c.data
  dl : c.data.length ≤ 70368744177664
  db : ∀ b ∈ c.data, b < 256
  v : ViewR w am al ad c.v
theorem CmdR.ext {w w' : World} {da am al ad : Option Addr} {c : CmdD} (h : CmdR w da am al ad c) (hb : Below w.heap.size w w') : CmdR w' da am al ad c :=
  ⟨h.dr.ext hb, h.dl, h.db, h.v.ext hb⟩
structure CmdBox (w : World) (b : Nat) (c : CmdD) (da am al ad : Option Addr) (dc cm cl cd : Nat) : Prop where
  c0 : w.cell? ⟨b, 0, none⟩ = some (.int .i64 c.kind)
  c1 : w.cell? ⟨b, 1, none⟩ = some (.int .u16 c.fr.1)
  c2 : w.cell? ⟨b, 2, none⟩ = some (.int .u32 c.fr.2)
  c3 : w.cell? ⟨b, 3, none⟩ = some (.int .u64 c.num)
  c4 : w.cell? ⟨b, 4, none⟩ = some (.int .u64 c.vw)
  c5 : w.cell? ⟨b, 5, none⟩ = some (.slice da c.data.length dc)
  c6 : w.cell? ⟨b, 6, none⟩ = some (.int .u64 c.v.id)
  c7 : w.cell? ⟨b, 7, none⟩ = some (.slice am c.v.ms.length cm)
  c8 : w.cell? ⟨b, 8, none⟩ = some (.slice al c.v.ls.length cl)
  c9 : w.cell? ⟨b, 9, none⟩ = some (.slice ad c.v.ds.length cd)
section
variable {w w' : World} {b : Nat} {c : CmdD} {da am al ad : Option Addr} {dc cm cl cd : Nat}
theorem CmdBox.lt (h : CmdBox w b c da am al ad dc cm cl cd) : b < w.heap.size := World.block_lt_of_cell? w _ h.c0
theorem CmdBox.ext (h : CmdBox w b c da am al ad dc cm cl cd) {B : Nat} (hb : Below B w w') (hB : b < B) : CmdBox w' b c da am al ad dc cm cl cd := by
  have g : ∀ k, w'.cell? ⟨b, k, none⟩ = w.cell? ⟨b, k, none⟩ := fun k => hb.cell (by exact hB)
  exact ⟨(g 0).trans h.c0, (g 1).trans h.c1, (g 2).trans h.c2, (g 3).trans h.c3, (g 4).trans h.c4, (g 5).trans h.c5, (g 6).trans h.c6, (g 7).trans h.c7, (g 8).trans h.c8, (g 9).trans h.c9⟩
theorem CmdBox.made (w : World) : CmdBox (w.alloc (.cells (cmdL da am al ad dc cm cl cd c) 35)) w.heap.size c da am al ad dc cm cl cd := by
  unfold cmdL
  exact ⟨by simp, by simp, by simp, by simp, by simp, by simp, by simp, by simp, by simp, by simp⟩
end
theorem refSame_is {A B : View} {am al ad bm bl bd : Option Addr} {cm cl cd em el ed : Nat} {w : World} {r : Bool} (h : Hid (sameB A B = r)) (hA : ViewR w am al ad A) (hB : ViewR w bm bl bd B) :
   Calls Tryz.prog 16 #[.agg #[.int .u64 A.id, .slice am A.ms.length cm, .slice al A.ls.length cl, .slice ad A.ds.length cd], .agg #[.int .u64 B.id, .slice bm B.ms.length em, .slice bl B.ls.length el, .slice bd B.ds.length ed]] w fun e w' => e = .returned (.bool r) ∧ Below w.heap.size w w' := by
  have := refSame_any A B am al ad bm bl bd cm cl cd em el ed w hA hB
  rw [h.out] at this; exact this

end Go.Proofs.YtppapeoainafbaaGreatDoor

