/-
  Texts of this proof, one behind the other: WordsFd.
-/
import Derived.Test.YtflcdnmhgfhmdaaGreatDoorCards
import Derived.ProofKit
import Derived.Lay
import Derived.LaidOnce
import Derived.LaidLaws
import Derived.SevenTiedAt
import Derived.HandedShaped
set_option linter.unusedVariables false
set_option linter.unusedSimpArgs false
/-
  Closed facts of the whole translation: how things are laid out.
-/
namespace Go.Proofs.YtflcdnmhgfhmdaaGreatDoor.sf
open Go Go.RowKit Go.ChangeShapes Go.WideShapes

set_option maxRecDepth 100000
theorem r0 : (List.range' 0 80).all (rowFine Tryz.pinned.checked.prog) = true := by kernel_rfl
theorem r1 : (List.range' 80 80).all (rowFine Tryz.pinned.checked.prog) = true := by kernel_rfl
theorem r2 : (List.range' 160 80).all (rowFine Tryz.pinned.checked.prog) = true := by kernel_rfl
theorem r3 : (List.range' 240 80).all (rowFine Tryz.pinned.checked.prog) = true := by kernel_rfl
theorem r4 : (List.range' 320 80).all (rowFine Tryz.pinned.checked.prog) = true := by kernel_rfl
theorem r5 : (List.range' 400 80).all (rowFine Tryz.pinned.checked.prog) = true := by kernel_rfl
theorem r6 : (List.range' 480 80).all (rowFine Tryz.pinned.checked.prog) = true := by kernel_rfl
theorem r7 : (List.range' 560 80).all (rowFine Tryz.pinned.checked.prog) = true := by kernel_rfl
theorem r8 : (List.range' 640 80).all (rowFine Tryz.pinned.checked.prog) = true := by kernel_rfl
theorem r9 : (List.range' 720 36).all (rowFine Tryz.pinned.checked.prog) = true := by kernel_rfl
theorem ts : Tryz.pinned.checked.prog.types.size = 756 := by kernel_rfl
theorem l2 : Tryz.pinned.checked.prog.globals.all (fun g => decide (g.type < Tryz.pinned.checked.prog.types.size)) = true := by kernel_rfl
theorem l3 : Tryz.pinned.checked.prog.funcs.all (fun f => f.params.all fun t => decide (t < Tryz.pinned.checked.prog.types.size)) = true := by kernel_rfl
theorem chunk {p : Nat → Bool} {a m i : Nat} (h : (List.range' a m).all p = true) (h1 : a ≤ i) (h2 : i < a + m) : p i = true :=
  List.all_eq_true.1 h i (List.mem_range'_1.2 ⟨h1, h2⟩)
theorem a2 : laidOutB Tryz.pinned.checked.prog = true := by
  unfold laidOutB
  rw [l2, l3, Bool.and_true, Bool.and_true, ts]
  refine List.all_eq_true.2 fun i hi => ?_
  have hi := List.mem_range.1 hi
  by_cases h0 : i < 80
  · exact chunk r0 (by omega) (by omega)
  by_cases h1 : i < 160
  · exact chunk r1 (by omega) (by omega)
  by_cases h2 : i < 240
  · exact chunk r2 (by omega) (by omega)
  by_cases h3 : i < 320
  · exact chunk r3 (by omega) (by omega)
  by_cases h4 : i < 400
  · exact chunk r4 (by omega) (by omega)
  by_cases h5 : i < 480
  · exact chunk r5 (by omega) (by omega)
  by_cases h6 : i < 560
  · exact chunk r6 (by omega) (by omega)
  by_cases h7 : i < 640
  · exact chunk r7 (by omega) (by omega)
  by_cases h8 : i < 720
  · exact chunk r8 (by omega) (by omega)
  by_cases h9 : i < 756
  · exact chunk r9 (by omega) (by omega)
  omega
theorem a3 : mapsRowed Tryz.pinned.checked.prog = true := by kernel_rfl
end Go.Proofs.YtflcdnmhgfhmdaaGreatDoor.sf
