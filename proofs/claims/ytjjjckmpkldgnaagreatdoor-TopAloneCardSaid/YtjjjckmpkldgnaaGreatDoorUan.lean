/-
  What the listed variables hold is tied to the program's text: nine facts, each by itself. No condition.
-/
import Derived.Test.YtjjjckmpkldgnaaGreatDoorCards
import Derived.LaidByTextLater
import Derived.SevenTiedAt
namespace Go.Proofs.YtjjjckmpkldgnaaGreatDoor
open Go
set_option maxRecDepth 100000
def laidT : List (String × DataW Unit) := [("unicode/utf8.acceptRanges", Rows.laid_unicode_utf8_acceptRanges), ("strconv.ErrSyntax", Rows.laid_strconv_ErrSyntax), ("strconv.ErrRange", Rows.laid_strconv_ErrRange), ("internal/strconv.uint64pow10", Rows.laid_internal_strconv_uint64pow10), ("math/bits.deBruijn32tab", Rows.laid_math_bits_deBruijn32tab), ("math/bits.deBruijn64tab", Rows.laid_math_bits_deBruijn64tab)]
theorem tw1 : Tryz.prog.worded (varsWordLater true) = true := by kernel_rfl
theorem tw2 : Tryz.prog.worded (varsWordLater !true) = false := by kernel_rfl
theorem tw3 : Tryz.prog.worded rootWordLater = true := by kernel_rfl
theorem tw4 : laidT.map (fun x => Tryz.prog.kindOfLater x.1) = [LaidKind.data, .sentinel, .sentinel, .data, .data, .data].map some := by kernel_rfl
theorem tw5 : (Tryz.prog.funcNamed "gosem.cut.vars").isSome = true := by kernel_rfl
theorem tw6 : varsNamedLaterB Tryz.prog (varsId Tryz.prog) laidT = true := by kernel_rfl
theorem pinFirst : Tryz.pinned.checked.prog.pinnedFits "unicode/utf8.first" = true := by kernel_rfl
theorem noUns : Tryz.pinned.checked.prog.headLifts.contains "ownunsafe" = false := by kernel_rfl
end Go.Proofs.YtjjjckmpkldgnaaGreatDoor
