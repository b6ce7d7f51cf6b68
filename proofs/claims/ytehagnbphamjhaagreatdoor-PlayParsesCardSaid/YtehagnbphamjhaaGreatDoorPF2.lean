/- Parts of the proof: PF2. -/
import Derived.Test.YtehagnbphamjhaaGreatDoorPF1
namespace Go.Proofs.YtehagnbphamjhaaGreatDoor
open Go Go.ChangeShapes Go.WideShapes Go.ChangeAt Go.RowKit
/-! ### what the laid variables give -/
theorem pf_gTab : Tryz.prog.globalNamed "internal/strconv.uint64pow10" = some 0 := by kernel_rfl
theorem pf_gES : Tryz.prog.globalNamed "strconv.ErrSyntax" = some 2 := by kernel_rfl
theorem pf_gER : Tryz.prog.globalNamed "strconv.ErrRange" = some 3 := by kernel_rfl
theorem pf_gESType : (Tryz.prog.globals[2]?).map (·.type) = some 67 := by kernel_rfl
theorem pf_gERType : (Tryz.prog.globals[3]?).map (·.type) = some 67 := by kernel_rfl
theorem pf_cellsE : Tryz.prog.cellsOf 367 = 1 := by kernel_rfl
theorem pf_cells9 : Tryz.prog.cellsOf 9 = 1 := by kernel_rfl
theorem pf_star : "*" ++ "errors.errorString" = "*errors.errorString" := by decide
theorem pf_rowP (u : TypeId) (h : Tryz.prog.typeName? 3 u = some "*errors.errorString") : u = 365 :=
  typeName_ptr_named (nm := "errors.errorString") (by rw [pf_star]; kernel_rfl) (by kernel_rfl) (by decide) u (by rw [pf_star]; exact h)
end Go.Proofs.YtehagnbphamjhaaGreatDoor

