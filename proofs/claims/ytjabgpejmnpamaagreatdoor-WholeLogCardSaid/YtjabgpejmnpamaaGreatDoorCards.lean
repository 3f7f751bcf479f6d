/-
  DERIVED. GIVEN WITH THE SEED: THE CARDS: each row of YtjabgpejmnpamaaGreatDoorRows.lean that lists a variable, with what it lists TIED to the program's text (the seventh form; the later family's looks); each row that meets fmt, with fmt's text TOLD by the authors' own Lean function (tested against real Go, not proved from fmt's source: count such statements apart). THE CARD IS WHAT COUNTS. Prove the row's statement (the work); the ties are given (YtjabgpejmnpamaaGreatDoorTie.lean); close each card by the builder's one call (the guide's Derived/Test/ToyasCard.lean, 'card_holds'). Laid BY PROGRAM, IN A SANDBOX (cutbox-door.mjs). By AI agents, Wed Nov 11 2026. No macro, syntax, notation, axiom, sorry.
-/
import Derived.Test.YtjabgpejmnpamaaGreatDoorRows
import GoSem.ClaimSeven
namespace Go.Proofs.YtjabgpejmnpamaaGreatDoor
namespace Rows

/-- THE TIED CARD OF 'tegulatop.WholeImport'. -/
def wholeImportCard : Claim7 := { stood := { row := wholeImportRow, standIns := [], harness := (true, "a64b0a067a034f57fe13345c57f5156adb5708f50f71169a9ca7910f413c88e8"), looks := false }, kinds := [], alts := [], laidByText := true, laidKinds := [.data], laidTests := true, laidLooks := .later }
def WholeImportCardSaid : Prop := Claim7.holds Tryz.pinned (.plain (OpenSpec.ofChange wholeImportSpec)) wholeImportCard

/-- THE TIED CARD OF 'tegulatop.WholeLog'. -/
def wholeLogCard : Claim7 := { stood := { row := wholeLogRow, standIns := [], harness := (true, "a64b0a067a034f57fe13345c57f5156adb5708f50f71169a9ca7910f413c88e8"), looks := false }, kinds := [], alts := [], laidByText := true, laidKinds := [.data], laidTests := true, laidLooks := .later }
def WholeLogCardSaid : Prop := Claim7.holds Tryz.pinned (.plain (OpenSpec.ofChange wholeLogSpec)) wholeLogCard

/-- THE SECOND FORM's CARD OF 'tegulatop.WholeImport'. -/
def wholeImportUptoCard : Claim7 := { stood := { row := wholeImportUptoRow, standIns := [], harness := (true, "a64b0a067a034f57fe13345c57f5156adb5708f50f71169a9ca7910f413c88e8"), looks := false }, kinds := [], alts := [], laidByText := true, laidKinds := [.data], laidTests := true, laidLooks := .later }
def WholeImportUptoCardSaid : Prop := Claim7.holds Tryz.pinned (.plain (OpenSpec.upto wholeImportSpec)) wholeImportUptoCard

/-- THE SECOND FORM's CARD OF 'tegulatop.WholeLog'. -/
def wholeLogUptoCard : Claim7 := { stood := { row := wholeLogUptoRow, standIns := [], harness := (true, "a64b0a067a034f57fe13345c57f5156adb5708f50f71169a9ca7910f413c88e8"), looks := false }, kinds := [], alts := [], laidByText := true, laidKinds := [.data], laidTests := true, laidLooks := .later }
def WholeLogUptoCardSaid : Prop := Claim7.holds Tryz.pinned (.plain (OpenSpec.upto wholeLogSpec)) wholeLogUptoCard
end Rows
end Go.Proofs.YtjabgpejmnpamaaGreatDoor
