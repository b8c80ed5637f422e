/-
  DERIVED. GIVEN WITH THE SEED: THE CARDS: each row of YthcmigbamkohpaaGreatDoorRows.lean that lists a variable, with what it lists TIED to the program's text (the seventh form; the later family's looks); each row that meets fmt, with fmt's text TOLD by the authors' own Lean function (tested against real Go, not proved from fmt's source: count such statements apart). THE CARD IS WHAT COUNTS. Prove the row's statement (the work); the ties are given (YthcmigbamkohpaaGreatDoorTie.lean); close each card by the builder's one call (the guide's Derived/Test/ToyasCard.lean, 'card_holds'). Laid BY PROGRAM, IN A SANDBOX (cutbox-door.mjs). By AI agents, Wed Nov 11 2026. No macro, syntax, notation, axiom, sorry.
-/
import Derived.Test.YthcmigbamkohpaaGreatDoorRows
import GoSem.ClaimSeven
namespace Go.Proofs.YthcmigbamkohpaaGreatDoor
namespace Rows

/-- THE TIED CARD OF 'versionmaplaw32.ScriptLimit'. -/
def scriptLimitCard : Claim7 := { stood := { row := scriptLimitRow, standIns := [], harness := (true, "7f548a8900d94ee10c2d21cf828062ebaf3637690083d4189233618766f6c331"), looks := false }, kinds := [], alts := [], laidByText := true, laidKinds := [.data, .pinned], laidTests := true, laidLooks := .later }
def ScriptLimitCardSaid : Prop := Claim7.holds Tryz.pinned (.plain (OpenSpec.ofChange scriptLimitSpec)) scriptLimitCard

/-- THE SECOND FORM's CARD OF 'versionmaplaw32.ScriptLimit'. -/
def scriptLimitUptoCard : Claim7 := { stood := { row := scriptLimitUptoRow, standIns := [], harness := (true, "7f548a8900d94ee10c2d21cf828062ebaf3637690083d4189233618766f6c331"), looks := false }, kinds := [], alts := [], laidByText := true, laidKinds := [.data, .pinned], laidTests := true, laidLooks := .later }
def ScriptLimitUptoCardSaid : Prop := Claim7.holds Tryz.pinned (.plain (OpenSpec.upto scriptLimitSpec)) scriptLimitUptoCard
end Rows
end Go.Proofs.YthcmigbamkohpaaGreatDoor
