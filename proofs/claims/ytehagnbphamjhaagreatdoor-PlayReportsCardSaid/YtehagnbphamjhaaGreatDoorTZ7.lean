/- Parts of the proof: TZ7. -/
import Derived.Test.YtehagnbphamjhaaGreatDoorTZ5
namespace Go.Proofs.YtehagnbphamjhaaGreatDoor
open Go
theorem tz_pin : Tryz.pinned.checked.prog.pinnedFits "unicode/utf8.first" = true := by kernel_rfl
theorem tz_noOwn : Tryz.pinned.checked.prog.headLifts.contains "ownunsafe" = false := by kernel_rfl
theorem tz_fits : Tryz.pinned.checked.prog.listedFits [("unicode/utf8.first", Rows.laid_unicode_utf8_first), ("unicode/utf8.acceptRanges", Rows.laid_unicode_utf8_acceptRanges), ("strconv.ErrSyntax", Rows.laid_strconv_ErrSyntax), ("strconv.ErrRange", Rows.laid_strconv_ErrRange), ("internal/strconv.uint64pow10", Rows.laid_internal_strconv_uint64pow10), ("math/bits.deBruijn32tab", Rows.laid_math_bits_deBruijn32tab), ("math/bits.deBruijn64tab", Rows.laid_math_bits_deBruijn64tab)] = true := by
  unfold Program.listedFits
  rw [tz_noOwn]
  kernel_rfl
theorem tieZ : Tryz.prog.laidByTextLater tzL [.data, .sentinel, .sentinel, .data, .data, .data] true :=
  Program.laidByTextLater_by_run 400 8 tz_w tz_w2 tz_root tz_k tz_g tz_n tz_d tz_h1 tz_h2
theorem playReports_row_tieZ : Rows.playReportsRow.laidByTextAt .later Tryz.pinned [.pinned, .data, .sentinel, .sentinel, .data, .data, .data] true :=
  OpenClaim.laidByTextAt_pinned rfl rfl tieZ rfl rfl rfl rfl (fun y hy _e => by
    simp only [Rows.playReportsRow, List.zip_cons_cons, List.zip_nil_right, List.mem_cons, List.mem_nil_iff, or_false] at hy
    rcases hy with rfl | rfl | rfl | rfl | rfl | rfl | rfl
    · exact ⟨tz_pin, by kernel_rfl⟩
    · cases _e
    · cases _e
    · cases _e
    · cases _e
    · cases _e
    · cases _e) tz_fits
end Go.Proofs.YtehagnbphamjhaaGreatDoor

