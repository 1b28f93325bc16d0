/-
  Texts of this proof, one behind the other: WordsFb.
-/
import Derived.Test.YtflcdnmhgfhmdaaGreatDoorCards
import Derived.ProofKit
import Derived.Lay
import Derived.LaidOnce
import Derived.LaidLaws
import Derived.SevenTiedAt
import Derived.HandedShaped
set_option linter.unusedVariables false
set_option linter.unusedSimpArgs false
/-
  Closed facts of the witness, each by itself; no function starts a goroutine.
-/
namespace Go.Proofs.YtflcdnmhgfhmdaaGreatDoor.sf
open Go Go.RowKit Go.ChangeShapes Go.WideShapes

set_option maxRecDepth 100000
theorem w2 (os : Os) : World.variablesZipB Tryz.checked.prog ((World.laidAll Tryz.prog os Rows.scriptWordsRow.laid).forCall (fun _ _ => 0) { blocks := #[], args := #[Value.string { data := #[] }] }) = true := by kernel_rfl
theorem w3 (os : Os) : List.take ((begin Tryz.checked.prog (fun _ _ => 0) default).world.heap.size - Tryz.checked.prog.globals.size) (List.drop Tryz.checked.prog.globals.size ((World.laidAll Tryz.prog os Rows.scriptWordsRow.laid).forCall (fun _ _ => 0) { blocks := #[], args := #[Value.string { data := #[] }] }).heap.toList) = List.drop Tryz.checked.prog.globals.size (begin Tryz.checked.prog (fun _ _ => 0) default).world.heap.toList := by kernel_rfl
theorem w4 (os : Os) : Input.okWideB Tryz.checked.prog ((World.laidAll Tryz.prog os Rows.scriptWordsRow.laid).forCall (fun _ _ => 0) { blocks := #[], args := #[Value.string { data := #[] }] }) 3 { blocks := #[], args := #[Value.string { data := #[] }] } = true := by kernel_rfl
theorem w5 (os : Os) {H : Type} (enc : TypeId × Value → H) : ChangeSpec.preB enc Tryz.checked.prog Tryz.f3 Rows.scriptWordsSpec [] false ((World.laidAll Tryz.prog os Rows.scriptWordsRow.laid).forCall (fun _ _ => 0) { blocks := #[], args := #[Value.string { data := #[] }] }).memory #[Value.string { data := #[] }] 8 = true := by kernel_rfl
theorem w6 (os : Os) {H : Type} (enc : TypeId × Value → H) : ChangeSpec.sizedB enc Tryz.checked.prog Tryz.f3 Rows.scriptWordsSpec false ((World.laidAll Tryz.prog os Rows.scriptWordsRow.laid).forCall (fun _ _ => 0) { blocks := #[], args := #[Value.string { data := #[] }] }).memory #[Value.string { data := #[] }] 8 = true := by kernel_rfl
theorem w8 (os : Os) : World.layFits Tryz.prog (World.holding Tryz.prog os { blocks := #[], args := #[] }) Rows.scriptWordsRow.laid [] = true := by kernel_rfl
theorem w9 (os : Os) : World.layIfaces Tryz.prog (World.holding Tryz.prog os { blocks := #[], args := #[] }) Rows.scriptWordsRow.laid (World.laidAll Tryz.prog os Rows.scriptWordsRow.laid) = true := by kernel_rfl
end Go.Proofs.YtflcdnmhgfhmdaaGreatDoor.sf
