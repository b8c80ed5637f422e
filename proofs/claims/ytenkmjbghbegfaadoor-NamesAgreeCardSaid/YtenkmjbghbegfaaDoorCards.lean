/-
  DERIVED. GIVEN WITH THE SEED: THE CARDS: each row of YtenkmjbghbegfaaDoorRows.lean that lists a variable, with what it lists TIED to the program's text (the seventh form; the later family's looks); each row that meets fmt, with fmt's text TOLD by the authors' own Lean function (tested against real Go, not proved from fmt's source: count such statements apart). THE CARD IS WHAT COUNTS. Prove the row's statement (the work); the ties are given (YtenkmjbghbegfaaDoorTie.lean); close each card by the builder's one call (the guide's Derived/Test/ToyasCard.lean, 'card_holds'). Laid BY PROGRAM, IN A SANDBOX (cutbox-door.mjs). By AI agents, Wed Nov 11 2026. No macro, syntax, notation, axiom, sorry.
-/
import Derived.Test.YtenkmjbghbegfaaDoorRows
import GoSem.ClaimSeven
namespace Go.Proofs.YtenkmjbghbegfaaDoor
namespace Rows

/-- THE TIED CARD OF 'versionmaplaw23.NamesAreValid'. -/
def namesAreValidCard : Claim7 := { stood := { row := namesAreValidRow, standIns := [], harness := (true, "7c9f6467ba9994c6e0d5d5b4957a3409e729468c054f396fa51f3f4f82c4edff"), looks := false }, kinds := [], alts := [], laidByText := true, laidKinds := [.data, .pinned], laidTests := true, laidLooks := .later }
def NamesAreValidCardSaid : Prop := Claim7.holds Tryd.pinned (.plain (OpenSpec.ofChange namesAreValidSpec)) namesAreValidCard

/-- THE TIED CARD OF 'versionmaplaw23.NamesLog'. -/
def namesLogCard : Claim7 := { stood := { row := namesLogRow, standIns := [], harness := (true, "7c9f6467ba9994c6e0d5d5b4957a3409e729468c054f396fa51f3f4f82c4edff"), looks := false }, kinds := [], alts := [], laidByText := true, laidKinds := [.data, .pinned], laidTests := true, laidLooks := .later }
def NamesLogCardSaid : Prop := Claim7.holds Tryd.pinned (.plain (OpenSpec.ofChange namesLogSpec)) namesLogCard

/-- THE TIED CARD OF 'versionmaplaw23.NamesAgree'. -/
def namesAgreeCard : Claim7 := { stood := { row := namesAgreeRow, standIns := [], harness := (true, "7c9f6467ba9994c6e0d5d5b4957a3409e729468c054f396fa51f3f4f82c4edff"), looks := false }, kinds := [], alts := [], laidByText := true, laidKinds := [.data, .pinned], laidTests := true, laidLooks := .later }
def NamesAgreeCardSaid : Prop := Claim7.holds Tryd.pinned (.plain (OpenSpec.ofChange namesAgreeSpec)) namesAgreeCard

/-- THE TIED CARD OF 'versionmaplaw23.NamesCompareAndSet'. -/
def namesCompareAndSetCard : Claim7 := { stood := { row := namesCompareAndSetRow, standIns := [], harness := (true, "7c9f6467ba9994c6e0d5d5b4957a3409e729468c054f396fa51f3f4f82c4edff"), looks := false }, kinds := [], alts := [], laidByText := true, laidKinds := [.data, .pinned], laidTests := true, laidLooks := .later }
def NamesCompareAndSetCardSaid : Prop := Claim7.holds Tryd.pinned (.plain (OpenSpec.ofChange namesCompareAndSetSpec)) namesCompareAndSetCard

/-- THE TIED CARD OF 'versionmaplaw23.NamesLimit'. -/
def namesLimitCard : Claim7 := { stood := { row := namesLimitRow, standIns := [], harness := (true, "7c9f6467ba9994c6e0d5d5b4957a3409e729468c054f396fa51f3f4f82c4edff"), looks := false }, kinds := [], alts := [], laidByText := true, laidKinds := [.data, .pinned], laidTests := true, laidLooks := .later }
def NamesLimitCardSaid : Prop := Claim7.holds Tryd.pinned (.plain (OpenSpec.ofChange namesLimitSpec)) namesLimitCard

/-- THE SECOND FORM's CARD OF 'versionmaplaw23.NamesAreValid'. -/
def namesAreValidUptoCard : Claim7 := { stood := { row := namesAreValidUptoRow, standIns := [], harness := (true, "7c9f6467ba9994c6e0d5d5b4957a3409e729468c054f396fa51f3f4f82c4edff"), looks := false }, kinds := [], alts := [], laidByText := true, laidKinds := [.data, .pinned], laidTests := true, laidLooks := .later }
def NamesAreValidUptoCardSaid : Prop := Claim7.holds Tryd.pinned (.plain (OpenSpec.upto namesAreValidSpec)) namesAreValidUptoCard

/-- THE SECOND FORM's CARD OF 'versionmaplaw23.NamesLog'. -/
def namesLogUptoCard : Claim7 := { stood := { row := namesLogUptoRow, standIns := [], harness := (true, "7c9f6467ba9994c6e0d5d5b4957a3409e729468c054f396fa51f3f4f82c4edff"), looks := false }, kinds := [], alts := [], laidByText := true, laidKinds := [.data, .pinned], laidTests := true, laidLooks := .later }
def NamesLogUptoCardSaid : Prop := Claim7.holds Tryd.pinned (.plain (OpenSpec.upto namesLogSpec)) namesLogUptoCard

/-- THE SECOND FORM's CARD OF 'versionmaplaw23.NamesAgree'. -/
def namesAgreeUptoCard : Claim7 := { stood := { row := namesAgreeUptoRow, standIns := [], harness := (true, "7c9f6467ba9994c6e0d5d5b4957a3409e729468c054f396fa51f3f4f82c4edff"), looks := false }, kinds := [], alts := [], laidByText := true, laidKinds := [.data, .pinned], laidTests := true, laidLooks := .later }
def NamesAgreeUptoCardSaid : Prop := Claim7.holds Tryd.pinned (.plain (OpenSpec.upto namesAgreeSpec)) namesAgreeUptoCard

/-- THE SECOND FORM's CARD OF 'versionmaplaw23.NamesCompareAndSet'. -/
def namesCompareAndSetUptoCard : Claim7 := { stood := { row := namesCompareAndSetUptoRow, standIns := [], harness := (true, "7c9f6467ba9994c6e0d5d5b4957a3409e729468c054f396fa51f3f4f82c4edff"), looks := false }, kinds := [], alts := [], laidByText := true, laidKinds := [.data, .pinned], laidTests := true, laidLooks := .later }
def NamesCompareAndSetUptoCardSaid : Prop := Claim7.holds Tryd.pinned (.plain (OpenSpec.upto namesCompareAndSetSpec)) namesCompareAndSetUptoCard

/-- THE SECOND FORM's CARD OF 'versionmaplaw23.NamesLimit'. -/
def namesLimitUptoCard : Claim7 := { stood := { row := namesLimitUptoRow, standIns := [], harness := (true, "7c9f6467ba9994c6e0d5d5b4957a3409e729468c054f396fa51f3f4f82c4edff"), looks := false }, kinds := [], alts := [], laidByText := true, laidKinds := [.data, .pinned], laidTests := true, laidLooks := .later }
def NamesLimitUptoCardSaid : Prop := Claim7.holds Tryd.pinned (.plain (OpenSpec.upto namesLimitSpec)) namesLimitUptoCard
end Rows
end Go.Proofs.YtenkmjbghbegfaaDoor
