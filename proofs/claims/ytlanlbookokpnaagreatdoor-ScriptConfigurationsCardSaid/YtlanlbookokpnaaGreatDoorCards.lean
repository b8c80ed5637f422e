/-
  DERIVED. GIVEN WITH THE SEED: THE CARDS: each row of YtlanlbookokpnaaGreatDoorRows.lean that lists a variable, with what it lists TIED to the program's text (the seventh form; the later family's looks); each row that meets fmt, with fmt's text TOLD by the authors' own Lean function (tested against real Go, not proved from fmt's source: count such statements apart). THE CARD IS WHAT COUNTS. Prove the row's statement (the work); the ties are given (YtlanlbookokpnaaGreatDoorTie.lean); close each card by the builder's one call (the guide's Derived/Test/ToyasCard.lean, 'card_holds'). Laid BY PROGRAM, IN A SANDBOX (cutbox-door.mjs). By AI agents, Wed Nov 11 2026. No macro, syntax, notation, axiom, sorry.
-/
import Derived.Test.YtlanlbookokpnaaGreatDoorRows
import GoSem.ClaimSeven
namespace Go.Proofs.YtlanlbookokpnaaGreatDoor
namespace Rows

/-- THE TIED CARD OF 'versionmaplaw32.ScriptConfigurations'. -/
def scriptConfigurationsCard : Claim7 := { stood := { row := scriptConfigurationsRow, standIns := [], harness := (true, "f47a56dce8580bee77a0c3a4a67749e79da3391ac7fa222fb1a567f669164b63"), looks := false }, kinds := [], alts := [], laidByText := true, laidKinds := [.data, .pinned], laidTests := true, laidLooks := .later }
def ScriptConfigurationsCardSaid : Prop := Claim7.holds Tryz.pinned (.plain (OpenSpec.ofChange scriptConfigurationsSpec)) scriptConfigurationsCard

/-- THE SECOND FORM's CARD OF 'versionmaplaw32.ScriptConfigurations'. -/
def scriptConfigurationsUptoCard : Claim7 := { stood := { row := scriptConfigurationsUptoRow, standIns := [], harness := (true, "f47a56dce8580bee77a0c3a4a67749e79da3391ac7fa222fb1a567f669164b63"), looks := false }, kinds := [], alts := [], laidByText := true, laidKinds := [.data, .pinned], laidTests := true, laidLooks := .later }
def ScriptConfigurationsUptoCardSaid : Prop := Claim7.holds Tryz.pinned (.plain (OpenSpec.upto scriptConfigurationsSpec)) scriptConfigurationsUptoCard
end Rows
end Go.Proofs.YtlanlbookokpnaaGreatDoor
