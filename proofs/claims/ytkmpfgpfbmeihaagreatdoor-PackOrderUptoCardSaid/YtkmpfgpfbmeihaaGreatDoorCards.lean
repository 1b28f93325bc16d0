/-
  DERIVED. GIVEN WITH THE SEED: THE CARDS: each row of YtkmpfgpfbmeihaaGreatDoorRows.lean that lists a variable, with what it lists TIED to the program's text (the seventh form; the later family's looks); each row that meets fmt, with fmt's text TOLD by the authors' own Lean function (tested against real Go, not proved from fmt's source: count such statements apart). THE CARD IS WHAT COUNTS. Prove the row's statement (the work); the ties are given (YtkmpfgpfbmeihaaGreatDoorTie.lean); close each card by the builder's one call (the guide's Derived/Test/ToyasCard.lean, 'card_holds'). Laid BY PROGRAM, IN A SANDBOX (cutbox-door.mjs). By AI agents, Wed Nov 11 2026. No macro, syntax, notation, axiom, sorry.
-/
import Derived.Test.YtkmpfgpfbmeihaaGreatDoorRows
import GoSem.ClaimSeven
namespace Go.Proofs.YtkmpfgpfbmeihaaGreatDoor
namespace Rows

/-- THE TIED CARD OF 'stemmalaw11.PackHeads'. -/
def packHeadsCard : Claim7 := { stood := { row := packHeadsRow, standIns := [], harness := (true, "d0d861efebdc674cd34ba13b4887dc8f133837954f0c3d7577248866046ebc0d"), looks := true }, kinds := [], alts := [], laidByText := true, laidKinds := [.data, .data, .data], laidTests := true, laidLooks := .later }
def PackHeadsCardSaid : Prop := Claim7.holds Tryz.pinned (.plain (OpenSpec.ofChange packHeadsSpec)) packHeadsCard

/-- THE TIED CARD OF 'stemmalaw11.PackOrder'. -/
def packOrderCard : Claim7 := { stood := { row := packOrderRow, standIns := [], harness := (true, "d0d861efebdc674cd34ba13b4887dc8f133837954f0c3d7577248866046ebc0d"), looks := true }, kinds := [], alts := [], laidByText := true, laidKinds := [.data, .data, .data], laidTests := true, laidLooks := .later }
def PackOrderCardSaid : Prop := Claim7.holds Tryz.pinned (.plain (OpenSpec.ofChange packOrderSpec)) packOrderCard

/-- THE TIED CARD OF 'stemmalaw11.PackTurned'. -/
def packTurnedCard : Claim7 := { stood := { row := packTurnedRow, standIns := [], harness := (true, "d0d861efebdc674cd34ba13b4887dc8f133837954f0c3d7577248866046ebc0d"), looks := true }, kinds := [], alts := [], laidByText := true, laidKinds := [.data, .data, .data], laidTests := true, laidLooks := .later }
def PackTurnedCardSaid : Prop := Claim7.holds Tryz.pinned (.plain (OpenSpec.ofChange packTurnedSpec)) packTurnedCard

/-- THE TIED CARD OF 'stemmalaw11.PackReads'. -/
def packReadsCard : Claim7 := { stood := { row := packReadsRow, standIns := [], harness := (true, "d0d861efebdc674cd34ba13b4887dc8f133837954f0c3d7577248866046ebc0d"), looks := true }, kinds := [], alts := [], laidByText := true, laidKinds := [.data, .data, .data], laidTests := true, laidLooks := .later }
def PackReadsCardSaid : Prop := Claim7.holds Tryz.pinned (.plain (OpenSpec.ofChange packReadsSpec)) packReadsCard

/-- THE TIED CARD OF 'stemmalaw11.PackThin'. -/
def packThinCard : Claim7 := { stood := { row := packThinRow, standIns := [], harness := (true, "d0d861efebdc674cd34ba13b4887dc8f133837954f0c3d7577248866046ebc0d"), looks := true }, kinds := [], alts := [], laidByText := true, laidKinds := [.data, .data, .data], laidTests := true, laidLooks := .later }
def PackThinCardSaid : Prop := Claim7.holds Tryz.pinned (.plain (OpenSpec.ofChange packThinSpec)) packThinCard

/-- THE SECOND FORM's CARD OF 'stemmalaw11.PackHeads'. -/
def packHeadsUptoCard : Claim7 := { stood := { row := packHeadsUptoRow, standIns := [], harness := (true, "d0d861efebdc674cd34ba13b4887dc8f133837954f0c3d7577248866046ebc0d"), looks := true }, kinds := [], alts := [], laidByText := true, laidKinds := [.data, .data, .data], laidTests := true, laidLooks := .later }
def PackHeadsUptoCardSaid : Prop := Claim7.holds Tryz.pinned (.plain (OpenSpec.upto packHeadsSpec)) packHeadsUptoCard

/-- THE SECOND FORM's CARD OF 'stemmalaw11.PackOrder'. -/
def packOrderUptoCard : Claim7 := { stood := { row := packOrderUptoRow, standIns := [], harness := (true, "d0d861efebdc674cd34ba13b4887dc8f133837954f0c3d7577248866046ebc0d"), looks := true }, kinds := [], alts := [], laidByText := true, laidKinds := [.data, .data, .data], laidTests := true, laidLooks := .later }
def PackOrderUptoCardSaid : Prop := Claim7.holds Tryz.pinned (.plain (OpenSpec.upto packOrderSpec)) packOrderUptoCard

/-- THE SECOND FORM's CARD OF 'stemmalaw11.PackTurned'. -/
def packTurnedUptoCard : Claim7 := { stood := { row := packTurnedUptoRow, standIns := [], harness := (true, "d0d861efebdc674cd34ba13b4887dc8f133837954f0c3d7577248866046ebc0d"), looks := true }, kinds := [], alts := [], laidByText := true, laidKinds := [.data, .data, .data], laidTests := true, laidLooks := .later }
def PackTurnedUptoCardSaid : Prop := Claim7.holds Tryz.pinned (.plain (OpenSpec.upto packTurnedSpec)) packTurnedUptoCard

/-- THE SECOND FORM's CARD OF 'stemmalaw11.PackReads'. -/
def packReadsUptoCard : Claim7 := { stood := { row := packReadsUptoRow, standIns := [], harness := (true, "d0d861efebdc674cd34ba13b4887dc8f133837954f0c3d7577248866046ebc0d"), looks := true }, kinds := [], alts := [], laidByText := true, laidKinds := [.data, .data, .data], laidTests := true, laidLooks := .later }
def PackReadsUptoCardSaid : Prop := Claim7.holds Tryz.pinned (.plain (OpenSpec.upto packReadsSpec)) packReadsUptoCard

/-- THE SECOND FORM's CARD OF 'stemmalaw11.PackThin'. -/
def packThinUptoCard : Claim7 := { stood := { row := packThinUptoRow, standIns := [], harness := (true, "d0d861efebdc674cd34ba13b4887dc8f133837954f0c3d7577248866046ebc0d"), looks := true }, kinds := [], alts := [], laidByText := true, laidKinds := [.data, .data, .data], laidTests := true, laidLooks := .later }
def PackThinUptoCardSaid : Prop := Claim7.holds Tryz.pinned (.plain (OpenSpec.upto packThinSpec)) packThinUptoCard
end Rows
end Go.Proofs.YtkmpfgpfbmeihaaGreatDoor
