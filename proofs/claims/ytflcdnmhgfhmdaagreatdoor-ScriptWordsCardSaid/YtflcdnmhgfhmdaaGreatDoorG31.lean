/-
  Texts of this proof, one behind the other: WordsFc.
-/
import Derived.Test.YtflcdnmhgfhmdaaGreatDoorG27
import Derived.Test.YtflcdnmhgfhmdaaGreatDoorG28
import Derived.Test.YtflcdnmhgfhmdaaGreatDoorG29
import Derived.Test.YtflcdnmhgfhmdaaGreatDoorG30
import Derived.ProofKit
import Derived.Lay
import Derived.LaidOnce
import Derived.LaidLaws
import Derived.SevenTiedAt
import Derived.HandedShaped
set_option linter.unusedVariables false
set_option linter.unusedSimpArgs false
/-
  The row's closed facts, joined.
-/
namespace Go.Proofs.YtflcdnmhgfhmdaaGreatDoor.sf
open Go Go.RowKit Go.ChangeShapes Go.WideShapes

set_option maxRecDepth 100000
theorem band {a b : Bool} (h1 : a = true) (h2 : b = true) : (a && b) = true := by rw [h1, h2]; rfl
theorem no_goes {P : Program} (h : P.funcs.any Func.goes = false) (f : FuncId) : P.goes f = false := by
  unfold Program.goes
  rw [h, Bool.and_false, Bool.or_false, Bool.eq_false_iff]
  intro e
  obtain ⟨g, _, hg⟩ := List.any_eq_true.1 e
  cases hf : P.funcs[g]? with
  | none => rw [hf] at hg; cases hg
  | some fn =>
    rw [hf] at hg
    have hm : fn ∈ P.funcs := Array.mem_of_getElem? hf
    have h2 : P.funcs.any Func.goes = true := Array.any_eq_true'.2 ⟨fn, hm, hg⟩
    rw [h] at h2
    cases h2
theorem goes : false = Rows.scriptWordsRow.goesBy Tryz.pinned.checked.prog := by
  unfold OpenClaim.goesBy Program.goesAt Program.goesFrom
  cases hf : Tryz.pinned.checked.prog.funcNamed Rows.scriptWordsRow.func with
  | none => rfl
  | some f => rw [Option.any_some, no_goes g1 f]; rfl
set_option maxHeartbeats 4000000 in
theorem joined : joinedFacts Tryz.pinned.checked.prog 3 Tryz.f3 Rows.scriptWordsSpec Rows.scriptWordsRow = true := by
  unfold joinedFacts
  repeat' (with_reducible refine band ?_ ?_)
  all_goals first
    | with_reducible exact a10
    | with_reducible exact a11
    | with_reducible exact a12
    | with_reducible exact a13
    | with_reducible exact a2
    | with_reducible exact a3
    | with_reducible exact s1
    | with_reducible exact s2
    | with_reducible exact s3
    | (as_aux_lemma => kernel_rfl)
end Go.Proofs.YtflcdnmhgfhmdaaGreatDoor.sf
