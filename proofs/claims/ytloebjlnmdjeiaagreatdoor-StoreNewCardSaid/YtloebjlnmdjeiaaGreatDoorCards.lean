/-
  DERIVED. GIVEN WITH THE SEED: THE CARDS: each row of YtloebjlnmdjeiaaGreatDoorRows.lean that lists a variable, with what it lists TIED to the program's text (the seventh form; the later family's looks); each row that meets fmt, with fmt's text TOLD by the authors' own Lean function (tested against real Go, not proved from fmt's source: count such statements apart). THE CARD IS WHAT COUNTS. Prove the row's statement (the work); the ties are given (YtloebjlnmdjeiaaGreatDoorTie.lean); close each card by the builder's one call (the guide's Derived/Test/ToyasCard.lean, 'card_holds'). Laid BY PROGRAM, IN A SANDBOX (cutbox-door.mjs). By AI agents, Wed Nov 11 2026. No macro, syntax, notation, axiom, sorry.
-/
import Derived.Test.YtloebjlnmdjeiaaGreatDoorRows
import GoSem.ClaimSeven
namespace Go.Proofs.YtloebjlnmdjeiaaGreatDoor
namespace Rows

/-- THE TIED CARD OF 'versionmaplaw31.StoreNew'. -/
def storeNewCard : Claim7 := { stood := { row := storeNewRow, standIns := [], harness := (true, "74c6ddec428df2187d006bfb893e0f9106f1533cdbbbd74f380b6752caaf9eea"), looks := false }, kinds := [], alts := [], laidByText := true, laidKinds := [.data, .pinned], laidTests := true, laidLooks := .later }
def StoreNewCardSaid : Prop := Claim7.holds Tryz.pinned (.plain (OpenSpec.ofChange storeNewSpec)) storeNewCard

/-- THE SECOND FORM's CARD OF 'versionmaplaw31.StoreNew'. -/
def storeNewUptoCard : Claim7 := { stood := { row := storeNewUptoRow, standIns := [], harness := (true, "74c6ddec428df2187d006bfb893e0f9106f1533cdbbbd74f380b6752caaf9eea"), looks := false }, kinds := [], alts := [], laidByText := true, laidKinds := [.data, .pinned], laidTests := true, laidLooks := .later }
def StoreNewUptoCardSaid : Prop := Claim7.holds Tryz.pinned (.plain (OpenSpec.upto storeNewSpec)) storeNewUptoCard
end Rows
end Go.Proofs.YtloebjlnmdjeiaaGreatDoor
