/-
  Texts of this proof, one behind the other: WordsTie.
-/
import Derived.Test.YtflcdnmhgfhmdaaGreatDoorRows
import Derived.LaidByTextLater
import Derived.SevenTiedAt
import Derived.LaidOnce
set_option linter.unusedVariables false
set_option linter.unusedSimpArgs false
/-
  The listed variables are tied to the program's text: the given tie's statement, its closed facts each by itself (together they ask for more memory than there is).
-/
namespace Go.Proofs.YtflcdnmhgfhmdaaGreatDoor.wt
open Go

set_option maxRecDepth 100000
abbrev laidL : List (String × DataW Unit) := [("unicode/utf8.acceptRanges", Rows.laid_unicode_utf8_acceptRanges), ("strconv.ErrSyntax", Rows.laid_strconv_ErrSyntax), ("strconv.ErrRange", Rows.laid_strconv_ErrRange), ("internal/strconv.uint64pow10", Rows.laid_internal_strconv_uint64pow10), ("math/bits.deBruijn32tab", Rows.laid_math_bits_deBruijn32tab), ("math/bits.deBruijn64tab", Rows.laid_math_bits_deBruijn64tab)]
abbrev kindsL : List LaidKind := [.data, .sentinel, .sentinel, .data, .data, .data]
theorem t1 : Tryz.prog.worded (varsWordLater true) = true := by kernel_rfl
theorem t2 : Tryz.prog.worded (varsWordLater !true) = false := by kernel_rfl
theorem t3 : Tryz.prog.worded rootWordLater = true := by kernel_rfl
theorem t4 : laidL.map (fun x => Tryz.prog.kindOfLater x.1) = kindsL.map some := by kernel_rfl
theorem t5 : (Tryz.prog.funcNamed "gosem.cut.vars").isSome = true := by kernel_rfl
theorem t6 : varsNamedLaterB Tryz.prog (varsId Tryz.prog) laidL = true := by kernel_rfl
theorem t7 (os : Os) (tape : Tape) : doorLeaves Tryz.prog 400 8 65 laidL os tape = some (laidL.filter fun x => x.2.handleName?.isNone, (funcsListed laidL).map (·.2.funcsOut)) := by kernel_rfl
theorem tie : Tryz.prog.laidByTextLater laidL kindsL true := Program.laidByTextLater_by_one 400 8 65 t1 t2 t3 t4 t5 t6 t7
theorem pin_laid_unicode_utf8_first : Tryz.pinned.checked.prog.pinnedFits "unicode/utf8.first" = true := by kernel_rfl
theorem noOwnUnsafe : Tryz.pinned.checked.prog.headLifts.contains "ownunsafe" = false := by kernel_rfl
theorem fits1 : Tryz.pinned.checked.prog.listedFits [("unicode/utf8.first", Rows.laid_unicode_utf8_first), ("unicode/utf8.acceptRanges", Rows.laid_unicode_utf8_acceptRanges), ("strconv.ErrSyntax", Rows.laid_strconv_ErrSyntax), ("strconv.ErrRange", Rows.laid_strconv_ErrRange), ("internal/strconv.uint64pow10", Rows.laid_internal_strconv_uint64pow10), ("math/bits.deBruijn32tab", Rows.laid_math_bits_deBruijn32tab), ("math/bits.deBruijn64tab", Rows.laid_math_bits_deBruijn64tab)] = true := by
  unfold Program.listedFits
  rw [noOwnUnsafe]
  kernel_rfl
theorem scriptWords_row_tie : Rows.scriptWordsRow.laidByTextAt .later Tryz.pinned [.pinned, .data, .sentinel, .sentinel, .data, .data, .data] true :=
  OpenClaim.laidByTextAt_pinned rfl rfl tie rfl rfl rfl rfl (fun y hy _e => by
    simp only [Rows.scriptWordsRow, List.zip_cons_cons, List.zip_nil_right, List.mem_cons, List.mem_nil_iff, or_false] at hy
    rcases hy with rfl | rfl | rfl | rfl | rfl | rfl | rfl
    · exact ⟨pin_laid_unicode_utf8_first, by kernel_rfl⟩
    · cases _e
    · cases _e
    · cases _e
    · cases _e
    · cases _e
    · cases _e) fits1
end Go.Proofs.YtflcdnmhgfhmdaaGreatDoor.wt
