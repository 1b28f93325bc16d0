/-
  Texts of this proof, one behind the other: WordsFe.
-/
import Derived.Test.YtflcdnmhgfhmdaaGreatDoorCards
import Derived.ProofKit
import Derived.Lay
import Derived.LaidOnce
import Derived.LaidLaws
import Derived.SevenTiedAt
import Derived.HandedShaped
set_option linter.unusedVariables false
set_option linter.unusedSimpArgs false
/-
  Closed facts of the whole translation; no function starts a goroutine.
-/
namespace Go.Proofs.YtflcdnmhgfhmdaaGreatDoor.sf
open Go Go.RowKit Go.ChangeShapes Go.WideShapes

set_option maxRecDepth 100000
theorem s1 : (Rows.scriptWordsRow.plainKeys == Tryz.pinned.checked.prog.plainKeys) = true := by kernel_rfl
theorem s2 : Tryz.pinned.checked.prog.stopsHeard = true := by kernel_rfl
theorem s3 : Tryz.pinned.checked.prog.mayEnter = true := by kernel_rfl
theorem p1 : (Tryz.f3.params.toList.all fun t => Tryz.checked.prog.readableRec t && decide (t < Tryz.checked.prog.types.size)) = true := by kernel_rfl
theorem g1 : Tryz.pinned.checked.prog.funcs.any Func.goes = false := by kernel_rfl
end Go.Proofs.YtflcdnmhgfhmdaaGreatDoor.sf
