/-
  No cell of these rows narrows 'for every input' (looked for: loops, veiled, ifaces, maps, wideKeys, modest, calm, conditions, laid).
  DERIVED. THE GIVEN ROWS OF THIS SEAT. 4 by the template 'for every input the law returns true; each argument reads behind the call as it read before'; 0 by the template 'total and deterministic' (their statements: YteldakjhnifbpaaTotals.lean).
  GIVEN WITH THE SEED: the statements are not yours to turn. If you find one false, say at which input.
  Laid BY PROGRAM, IN A SANDBOX (cutbox-rows.mjs): the forced cells as the released guide's own fill.sh prints them over the translation db6364857bf558d0… (all of the seat's roots in one cut). By AI agents, Wed Nov 11 2026. No macro, syntax, notation, axiom, sorry.
-/
import Derived.Test.YteldakjhnifbpaaChecked
import GoSem.Claim
import GoSem.ClaimJoined
import GoSem.ClaimMapViews
import Derived.JoinedTies
import Derived.KernelRfl
namespace Go.Proofs.Yteldakjhnifbpaa
/- THE CELL 'sum', in the pinned program and in every row, IS THE sha256 OF THE DUMP (.gsa) THAT YteldakjhnifbpaaProg.lean LOADS. Nothing in Lean hashes anything: it is a label: what it is worth is what the hold of that sum in a sandbox is worth. -/
noncomputable def Try.pinned : Pinned := { name := "yteldakjhnifbpaa", sum := "db6364857bf558d06570e4211cff678cf494f8d20f78a18606b6833fa45f36f6", checked := Try.checked }
namespace Rows
def none {H : Type} : Left H := { results := [], args := [] }

/-- 'stemmalaw17.PktBounds': WHATEVER THE INPUT: true; the input reads as it did. -/
def pktBoundsSpec : ChangeSpec := { name := "pktBounds", fn := fun _ => fun
  | [d1, d2] => { results := [.lit (.bool true)], args := [d1, d2] }
  | _ => none }
def pktBoundsRow : OpenClaim := { program := "yteldakjhnifbpaa", sum := "db6364857bf558d06570e4211cff678cf494f8d20f78a18606b6833fa45f36f6", func := "stemma/stemmalaw17.PktBounds", spec := "pktBounds", apart := false }
def PktBoundsSaid : Prop := pktBoundsRow.holds Try.pinned (OpenSpec.ofChange pktBoundsSpec)

/-- ITS FALSE NEIGHBOUR: 'it returns false'. Refute it at one input. -/
def pktBoundsWrong : ChangeSpec := { name := "pktBounds", fn := fun _ => fun
  | [d1, d2] => { results := [.lit (.bool false)], args := [d1, d2] }
  | _ => none }
def PktBoundsWrongFalsely : Prop := pktBoundsRow.holds Try.pinned (OpenSpec.ofChange pktBoundsWrong)

/-- 'stemmalaw17.PktLines': WHATEVER THE INPUT: true; the input reads as it did. -/
def pktLinesSpec : ChangeSpec := { name := "pktLines", fn := fun _ => fun
  | [d1, d2] => { results := [.lit (.bool true)], args := [d1, d2] }
  | _ => none }
def pktLinesRow : OpenClaim := { program := "yteldakjhnifbpaa", sum := "db6364857bf558d06570e4211cff678cf494f8d20f78a18606b6833fa45f36f6", func := "stemma/stemmalaw17.PktLines", spec := "pktLines", apart := false }
def PktLinesSaid : Prop := pktLinesRow.holds Try.pinned (OpenSpec.ofChange pktLinesSpec)

/-- ITS FALSE NEIGHBOUR: 'it returns false'. Refute it at one input. -/
def pktLinesWrong : ChangeSpec := { name := "pktLines", fn := fun _ => fun
  | [d1, d2] => { results := [.lit (.bool false)], args := [d1, d2] }
  | _ => none }
def PktLinesWrongFalsely : Prop := pktLinesRow.holds Try.pinned (OpenSpec.ofChange pktLinesWrong)

/-- 'stemmalaw17.PktSides': WHATEVER THE INPUT: true; the input reads as it did. -/
def pktSidesSpec : ChangeSpec := { name := "pktSides", fn := fun _ => fun
  | [d1, d2, d3, d4] => { results := [.lit (.bool true)], args := [d1, d2, d3, d4] }
  | _ => none }
def pktSidesRow : OpenClaim := { program := "yteldakjhnifbpaa", sum := "db6364857bf558d06570e4211cff678cf494f8d20f78a18606b6833fa45f36f6", func := "stemma/stemmalaw17.PktSides", spec := "pktSides", apart := false }
def PktSidesSaid : Prop := pktSidesRow.holds Try.pinned (OpenSpec.ofChange pktSidesSpec)

/-- ITS FALSE NEIGHBOUR: 'it returns false'. Refute it at one input. -/
def pktSidesWrong : ChangeSpec := { name := "pktSides", fn := fun _ => fun
  | [d1, d2, d3, d4] => { results := [.lit (.bool false)], args := [d1, d2, d3, d4] }
  | _ => none }
def PktSidesWrongFalsely : Prop := pktSidesRow.holds Try.pinned (OpenSpec.ofChange pktSidesWrong)

/-- 'stemmalaw17.PktBack': WHATEVER THE INPUT: true; the input reads as it did. -/
def pktBackSpec : ChangeSpec := { name := "pktBack", fn := fun _ => fun
  | [d1, d2, d3, d4] => { results := [.lit (.bool true)], args := [d1, d2, d3, d4] }
  | _ => none }
def pktBackRow : OpenClaim := { program := "yteldakjhnifbpaa", sum := "db6364857bf558d06570e4211cff678cf494f8d20f78a18606b6833fa45f36f6", func := "stemma/stemmalaw17.PktBack", spec := "pktBack", apart := false }
def PktBackSaid : Prop := pktBackRow.holds Try.pinned (OpenSpec.ofChange pktBackSpec)

/-- ITS FALSE NEIGHBOUR: 'it returns false'. Refute it at one input. -/
def pktBackWrong : ChangeSpec := { name := "pktBack", fn := fun _ => fun
  | [d1, d2, d3, d4] => { results := [.lit (.bool false)], args := [d1, d2, d3, d4] }
  | _ => none }
def PktBackWrongFalsely : Prop := pktBackRow.holds Try.pinned (OpenSpec.ofChange pktBackWrong)

/- THE SECOND FORM. 'bulk': how many values and letters a reading holds, each counted each time it is reached (what is shared counts as often as it is met; a slice's spare places count too). A statement '..UptoSaid' is the law's where the arguments, and the package variables that the reading takes, are together of bulk at most 1048576: NARROWER than '..Said'. Prove '..Said' where nothing that the law and all that it calls make is longer than what came in: it says more and counts as full. Else prove '..UptoSaid'. A law counts once. -/
mutual
def uptoBulk {H : Type} : DataW H → Nat
  | .lit (.string bytes) => bytes.length + 1
  | .lit _ => 1
  | .nil => 1
  | .ptr d => uptoBulk d + 1
  | .slice elems spare => uptoBulkAll elems + uptoBulkAll spare + 1
  | .agg parts => uptoBulkAll parts + 1
  | .iface _ d => uptoBulk d + 1
  | .map entries => uptoBulkEntries entries + 1
  | .held _ => 1
def uptoBulkAll {H : Type} : List (DataW H) → Nat
  | [] => 0
  | d :: r => uptoBulk d + uptoBulkAll r
def uptoBulkEntries {H : Type} : List (Lit × DataW H) → Nat
  | [] => 0
  | x :: r => uptoBulkEntry x + uptoBulkEntries r
def uptoBulkEntry {H : Type} : Lit × DataW H → Nat
  | (.string bytes, d) => bytes.length + uptoBulk d + 1
  | (_, d) => uptoBulk d + 1
 end
def uptoSmall : (H : Type) → List (DataW H) → Bool := fun _ ds => decide (uptoBulkAll ds ≤ 1048576)
def OpenSpec.upto (s : _root_.Go.ChangeSpec) : _root_.Go.OpenSpec := { _root_.Go.OpenSpec.ofChange s with cond := some uptoSmall }

/-- 'stemmalaw17.PktBounds', WHERE WHAT IT READS IS OF BULK AT MOST 1048576: true; the input reads as it did. -/
def pktBoundsUptoRow : OpenClaim := { program := "yteldakjhnifbpaa", sum := "db6364857bf558d06570e4211cff678cf494f8d20f78a18606b6833fa45f36f6", func := "stemma/stemmalaw17.PktBounds", spec := "pktBounds", apart := false, narrowed := true }
def PktBoundsUptoSaid : Prop := pktBoundsUptoRow.holds Try.pinned (OpenSpec.upto pktBoundsSpec)

/-- 'stemmalaw17.PktLines', WHERE WHAT IT READS IS OF BULK AT MOST 1048576: true; the input reads as it did. -/
def pktLinesUptoRow : OpenClaim := { program := "yteldakjhnifbpaa", sum := "db6364857bf558d06570e4211cff678cf494f8d20f78a18606b6833fa45f36f6", func := "stemma/stemmalaw17.PktLines", spec := "pktLines", apart := false, narrowed := true }
def PktLinesUptoSaid : Prop := pktLinesUptoRow.holds Try.pinned (OpenSpec.upto pktLinesSpec)

/-- 'stemmalaw17.PktSides', WHERE WHAT IT READS IS OF BULK AT MOST 1048576: true; the input reads as it did. -/
def pktSidesUptoRow : OpenClaim := { program := "yteldakjhnifbpaa", sum := "db6364857bf558d06570e4211cff678cf494f8d20f78a18606b6833fa45f36f6", func := "stemma/stemmalaw17.PktSides", spec := "pktSides", apart := false, narrowed := true }
def PktSidesUptoSaid : Prop := pktSidesUptoRow.holds Try.pinned (OpenSpec.upto pktSidesSpec)

/-- 'stemmalaw17.PktBack', WHERE WHAT IT READS IS OF BULK AT MOST 1048576: true; the input reads as it did. -/
def pktBackUptoRow : OpenClaim := { program := "yteldakjhnifbpaa", sum := "db6364857bf558d06570e4211cff678cf494f8d20f78a18606b6833fa45f36f6", func := "stemma/stemmalaw17.PktBack", spec := "pktBack", apart := false, narrowed := true }
def PktBackUptoSaid : Prop := pktBackUptoRow.holds Try.pinned (OpenSpec.upto pktBackSpec)

end Rows
end Go.Proofs.Yteldakjhnifbpaa
