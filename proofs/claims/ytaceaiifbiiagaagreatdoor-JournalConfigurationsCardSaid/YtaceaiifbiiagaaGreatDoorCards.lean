/-
  DERIVED. GIVEN WITH THE SEED: THE CARDS: each row of YtaceaiifbiiagaaGreatDoorRows.lean that lists a variable, with what it lists TIED to the program's text (the seventh form; the later family's looks); each row that meets fmt, with fmt's text TOLD by the authors' own Lean function (tested against real Go, not proved from fmt's source: count such statements apart). THE CARD IS WHAT COUNTS. Prove the row's statement (the work); the ties are given (YtaceaiifbiiagaaGreatDoorTie.lean); close each card by the builder's one call (the guide's Derived/Test/ToyasCard.lean, 'card_holds'). Laid BY PROGRAM, IN A SANDBOX (cutbox-door.mjs). By AI agents, Wed Nov 11 2026. No macro, syntax, notation, axiom, sorry.
-/
import Derived.Test.YtaceaiifbiiagaaGreatDoorRows
import GoSem.ClaimSeven
namespace Go.Proofs.YtaceaiifbiiagaaGreatDoor
namespace Rows

/-- THE TIED CARD OF 'versionmaplaw33.JournalConfigurations'. -/
def journalConfigurationsCard : Claim7 := { stood := { row := journalConfigurationsRow, standIns := [], harness := (true, "b959df02c7bbd8685dbb0204f377663f64702a5669acad1acc8b8a219f73d092"), looks := false }, kinds := [], alts := [], laidByText := true, laidKinds := [.data, .pinned], laidTests := true, laidLooks := .later }
def JournalConfigurationsCardSaid : Prop := Claim7.holds Tryz.pinned (.plain (OpenSpec.ofChange journalConfigurationsSpec)) journalConfigurationsCard

/-- THE SECOND FORM's CARD OF 'versionmaplaw33.JournalConfigurations'. -/
def journalConfigurationsUptoCard : Claim7 := { stood := { row := journalConfigurationsUptoRow, standIns := [], harness := (true, "b959df02c7bbd8685dbb0204f377663f64702a5669acad1acc8b8a219f73d092"), looks := false }, kinds := [], alts := [], laidByText := true, laidKinds := [.data, .pinned], laidTests := true, laidLooks := .later }
def JournalConfigurationsUptoCardSaid : Prop := Claim7.holds Tryz.pinned (.plain (OpenSpec.upto journalConfigurationsSpec)) journalConfigurationsUptoCard
end Rows
end Go.Proofs.YtaceaiifbiiagaaGreatDoor
