/-
  DERIVED. GIVEN WITH THE SEED: THE CARDS: each row of YtpebgkkmgffmaaaGreatDoorRows.lean that lists a variable, with what it lists TIED to the program's text (the seventh form; the later family's looks); each row that meets fmt, with fmt's text TOLD by the authors' own Lean function (tested against real Go, not proved from fmt's source: count such statements apart). THE CARD IS WHAT COUNTS. Prove the row's statement (the work); the ties are given (YtpebgkkmgffmaaaGreatDoorTie.lean); close each card by the builder's one call (the guide's Derived/Test/ToyasCard.lean, 'card_holds'). Laid BY PROGRAM, IN A SANDBOX (cutbox-door.mjs). By AI agents, Wed Nov 11 2026. No macro, syntax, notation, axiom, sorry.
-/
import Derived.Test.YtpebgkkmgffmaaaGreatDoorRows
import GoSem.ClaimSeven
namespace Go.Proofs.YtpebgkkmgffmaaaGreatDoor
namespace Rows

/-- THE TIED CARD OF 'versionmaptop.TopBranchesConfluent'. -/
def topBranchesConfluentCard : Claim7 := { stood := { row := topBranchesConfluentRow, standIns := [], harness := (true, "3861c33a280e6d2a5ae272fb7bd70dd0663395a7eb23c0a9f17bfbb8c9f7f162"), looks := false }, kinds := [], alts := [], laidByText := true, laidKinds := [.data, .pinned], laidTests := true, laidLooks := .later }
def TopBranchesConfluentCardSaid : Prop := Claim7.holds Tryz.pinned (.plain (OpenSpec.ofChange topBranchesConfluentSpec)) topBranchesConfluentCard

/-- THE SECOND FORM's CARD OF 'versionmaptop.TopBranchesConfluent'. -/
def topBranchesConfluentUptoCard : Claim7 := { stood := { row := topBranchesConfluentUptoRow, standIns := [], harness := (true, "3861c33a280e6d2a5ae272fb7bd70dd0663395a7eb23c0a9f17bfbb8c9f7f162"), looks := false }, kinds := [], alts := [], laidByText := true, laidKinds := [.data, .pinned], laidTests := true, laidLooks := .later }
def TopBranchesConfluentUptoCardSaid : Prop := Claim7.holds Tryz.pinned (.plain (OpenSpec.upto topBranchesConfluentSpec)) topBranchesConfluentUptoCard
end Rows
end Go.Proofs.YtpebgkkmgffmaaaGreatDoor
