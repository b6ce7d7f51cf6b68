/- Parts of the proof: TZ0. -/
import Derived.LaidByTextLater
import Derived.Test.YtehagnbphamjhaaGreatDoorPRi
namespace Go.Proofs.YtehagnbphamjhaaGreatDoor
open Go
/-! ### the variables of the plays -/
abbrev tzL : List (String × DataW Unit) := [("unicode/utf8.acceptRanges", Rows.laid_unicode_utf8_acceptRanges), ("strconv.ErrSyntax", Rows.laid_strconv_ErrSyntax), ("strconv.ErrRange", Rows.laid_strconv_ErrRange), ("internal/strconv.uint64pow10", Rows.laid_internal_strconv_uint64pow10), ("math/bits.deBruijn32tab", Rows.laid_math_bits_deBruijn32tab), ("math/bits.deBruijn64tab", Rows.laid_math_bits_deBruijn64tab)]
abbrev tzK : List LaidKind := [LaidKind.data, .sentinel, .sentinel, .data, .data, .data]
end Go.Proofs.YtehagnbphamjhaaGreatDoor

