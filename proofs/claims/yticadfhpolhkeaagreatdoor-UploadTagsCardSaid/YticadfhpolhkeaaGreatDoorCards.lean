/-
  DERIVED. GIVEN WITH THE SEED: THE CARDS: each row of YticadfhpolhkeaaGreatDoorRows.lean that lists a variable, with what it lists TIED to the program's text (the seventh form; the later family's looks); each row that meets fmt, with fmt's text TOLD by the authors' own Lean function (tested against real Go, not proved from fmt's source: count such statements apart). THE CARD IS WHAT COUNTS. Prove the row's statement (the work); the ties are given (YticadfhpolhkeaaGreatDoorTie.lean); close each card by the builder's one call (the guide's Derived/Test/ToyasCard.lean, 'card_holds'). Laid BY PROGRAM, IN A SANDBOX (cutbox-door.mjs). By AI agents, Wed Nov 11 2026. No macro, syntax, notation, axiom, sorry.
-/
import Derived.Test.YticadfhpolhkeaaGreatDoorRows
import GoSem.ClaimSeven
namespace Go.Proofs.YticadfhpolhkeaaGreatDoor
namespace Rows

/-- THE TIED CARD OF 'stemmalaw20.UploadTags'. -/
def uploadTagsCard : Claim7 := { stood := { row := uploadTagsRow, standIns := [], harness := (true, "9de46ef051501116cc4a1e6b0f3b295ff189cce8f0dd5de4c9c04ea3d9fce340"), looks := true }, kinds := [], alts := [], laidByText := true, laidKinds := [.data, .data, .data, .data, .pinned], laidTests := true, laidLooks := .later }
def UploadTagsCardSaid : Prop := Claim7.holds Tryz.pinned (.plain (OpenSpec.ofChange uploadTagsSpec)) uploadTagsCard

/-- THE SECOND FORM's CARD OF 'stemmalaw20.UploadTags'. -/
def uploadTagsUptoCard : Claim7 := { stood := { row := uploadTagsUptoRow, standIns := [], harness := (true, "9de46ef051501116cc4a1e6b0f3b295ff189cce8f0dd5de4c9c04ea3d9fce340"), looks := true }, kinds := [], alts := [], laidByText := true, laidKinds := [.data, .data, .data, .data, .pinned], laidTests := true, laidLooks := .later }
def UploadTagsUptoCardSaid : Prop := Claim7.holds Tryz.pinned (.plain (OpenSpec.upto uploadTagsSpec)) uploadTagsUptoCard
end Rows
end Go.Proofs.YticadfhpolhkeaaGreatDoor
