/-
  No cell of these rows narrows 'for every input' (looked for: loops, veiled, ifaces, maps, wideKeys, modest, calm, conditions, laid).
  DERIVED. THE GIVEN ROWS OF THIS SEAT. 7 by the template 'for every input the law returns true; each argument reads behind the call as it read before'; 0 by the template 'total and deterministic' (their statements: YtjoilgpleaemcaaTotals.lean).
  GIVEN WITH THE SEED: the statements are not yours to turn. If you find one false, say at which input.
  Laid BY PROGRAM, IN A SANDBOX (cutbox-rows.mjs): the forced cells as the released guide's own fill.sh prints them over the translation f861927bd54b4b65… (all of the seat's roots in one cut). By AI agents, Wed Nov 11 2026. No macro, syntax, notation, axiom, sorry.
-/
import Derived.Test.YtjoilgpleaemcaaChecked
import GoSem.Claim
import GoSem.ClaimJoined
import GoSem.ClaimMapViews
import Derived.JoinedTies
import Derived.KernelRfl
namespace Go.Proofs.Ytjoilgpleaemcaa
/- THE CELL 'sum', in the pinned program and in every row, IS THE sha256 OF THE DUMP (.gsa) THAT YtjoilgpleaemcaaProg.lean LOADS. Nothing in Lean hashes anything: it is a label: what it is worth is what the hold of that sum in a sandbox is worth. -/
noncomputable def Try.pinned : Pinned := { name := "ytjoilgpleaemcaa", sum := "f861927bd54b4b651b871ec17559e021fb7d45a7c49f15ceda7f6abaf527f94a", checked := Try.checked }
namespace Rows
def none {H : Type} : Left H := { results := [], args := [] }

/-- 'versionmaplaw21.AncestryNew': WHATEVER THE INPUT: true; the input reads as it did. -/
def ancestryNewSpec : ChangeSpec := { name := "ancestryNew", fn := fun _ => fun
  | [d1, d2] => { results := [.lit (.bool true)], args := [d1, d2] }
  | _ => none }
def ancestryNewRow : OpenClaim := { program := "ytjoilgpleaemcaa", sum := "f861927bd54b4b651b871ec17559e021fb7d45a7c49f15ceda7f6abaf527f94a", func := "versionmap/versionmaplaw21.AncestryNew", spec := "ancestryNew", unfollowed := true, recurses := true, apart := false }
def AncestryNewSaid : Prop := ancestryNewRow.holds Try.pinned (OpenSpec.ofChange ancestryNewSpec)

/-- ITS FALSE NEIGHBOUR: 'it returns false'. Refute it at one input. -/
def ancestryNewWrong : ChangeSpec := { name := "ancestryNew", fn := fun _ => fun
  | [d1, d2] => { results := [.lit (.bool false)], args := [d1, d2] }
  | _ => none }
def AncestryNewWrongFalsely : Prop := ancestryNewRow.holds Try.pinned (OpenSpec.ofChange ancestryNewWrong)

/-- 'versionmaplaw21.AncestryForgets': WHATEVER THE INPUT: true; the input reads as it did. -/
def ancestryForgetsSpec : ChangeSpec := { name := "ancestryForgets", fn := fun _ => fun
  | [d1, d2, d3] => { results := [.lit (.bool true)], args := [d1, d2, d3] }
  | _ => none }
def ancestryForgetsRow : OpenClaim := { program := "ytjoilgpleaemcaa", sum := "f861927bd54b4b651b871ec17559e021fb7d45a7c49f15ceda7f6abaf527f94a", func := "versionmap/versionmaplaw21.AncestryForgets", spec := "ancestryForgets", unfollowed := true, recurses := true, apart := false }
def AncestryForgetsSaid : Prop := ancestryForgetsRow.holds Try.pinned (OpenSpec.ofChange ancestryForgetsSpec)

/-- ITS FALSE NEIGHBOUR: 'it returns false'. Refute it at one input. -/
def ancestryForgetsWrong : ChangeSpec := { name := "ancestryForgets", fn := fun _ => fun
  | [d1, d2, d3] => { results := [.lit (.bool false)], args := [d1, d2, d3] }
  | _ => none }
def AncestryForgetsWrongFalsely : Prop := ancestryForgetsRow.holds Try.pinned (OpenSpec.ofChange ancestryForgetsWrong)

/-- 'versionmaplaw21.AncestryStaysSmall': WHATEVER THE INPUT: true; the input reads as it did. -/
def ancestryStaysSmallSpec : ChangeSpec := { name := "ancestryStaysSmall", fn := fun _ => fun
  | [d] => { results := [.lit (.bool true)], args := [d] }
  | _ => none }
def ancestryStaysSmallRow : OpenClaim := { program := "ytjoilgpleaemcaa", sum := "f861927bd54b4b651b871ec17559e021fb7d45a7c49f15ceda7f6abaf527f94a", func := "versionmap/versionmaplaw21.AncestryStaysSmall", spec := "ancestryStaysSmall", unfollowed := true, recurses := true, apart := false }
def AncestryStaysSmallSaid : Prop := ancestryStaysSmallRow.holds Try.pinned (OpenSpec.ofChange ancestryStaysSmallSpec)

/-- ITS FALSE NEIGHBOUR: 'it returns false'. Refute it at one input. -/
def ancestryStaysSmallWrong : ChangeSpec := { name := "ancestryStaysSmall", fn := fun _ => fun
  | [d] => { results := [.lit (.bool false)], args := [d] }
  | _ => none }
def AncestryStaysSmallWrongFalsely : Prop := ancestryStaysSmallRow.holds Try.pinned (OpenSpec.ofChange ancestryStaysSmallWrong)

/-- 'versionmaplaw21.AncestryNumbersAreNew': WHATEVER THE INPUT: true; the input reads as it did. -/
def ancestryNumbersAreNewSpec : ChangeSpec := { name := "ancestryNumbersAreNew", fn := fun _ => fun
  | [d1, d2] => { results := [.lit (.bool true)], args := [d1, d2] }
  | _ => none }
def ancestryNumbersAreNewRow : OpenClaim := { program := "ytjoilgpleaemcaa", sum := "f861927bd54b4b651b871ec17559e021fb7d45a7c49f15ceda7f6abaf527f94a", func := "versionmap/versionmaplaw21.AncestryNumbersAreNew", spec := "ancestryNumbersAreNew", unfollowed := true, recurses := true, apart := false }
def AncestryNumbersAreNewSaid : Prop := ancestryNumbersAreNewRow.holds Try.pinned (OpenSpec.ofChange ancestryNumbersAreNewSpec)

/-- ITS FALSE NEIGHBOUR: 'it returns false'. Refute it at one input. -/
def ancestryNumbersAreNewWrong : ChangeSpec := { name := "ancestryNumbersAreNew", fn := fun _ => fun
  | [d1, d2] => { results := [.lit (.bool false)], args := [d1, d2] }
  | _ => none }
def AncestryNumbersAreNewWrongFalsely : Prop := ancestryNumbersAreNewRow.holds Try.pinned (OpenSpec.ofChange ancestryNumbersAreNewWrong)

/-- 'versionmaplaw21.AncestryAgrees': WHATEVER THE INPUT: true; the input reads as it did. -/
def ancestryAgreesSpec : ChangeSpec := { name := "ancestryAgrees", fn := fun _ => fun
  | [d1, d2] => { results := [.lit (.bool true)], args := [d1, d2] }
  | _ => none }
def ancestryAgreesRow : OpenClaim := { program := "ytjoilgpleaemcaa", sum := "f861927bd54b4b651b871ec17559e021fb7d45a7c49f15ceda7f6abaf527f94a", func := "versionmap/versionmaplaw21.AncestryAgrees", spec := "ancestryAgrees", unfollowed := true, recurses := true, apart := false }
def AncestryAgreesSaid : Prop := ancestryAgreesRow.holds Try.pinned (OpenSpec.ofChange ancestryAgreesSpec)

/-- ITS FALSE NEIGHBOUR: 'it returns false'. Refute it at one input. -/
def ancestryAgreesWrong : ChangeSpec := { name := "ancestryAgrees", fn := fun _ => fun
  | [d1, d2] => { results := [.lit (.bool false)], args := [d1, d2] }
  | _ => none }
def AncestryAgreesWrongFalsely : Prop := ancestryAgreesRow.holds Try.pinned (OpenSpec.ofChange ancestryAgreesWrong)

/-- 'versionmaplaw21.AncestryBaseIsGreatest': WHATEVER THE INPUT: true; the input reads as it did. -/
def ancestryBaseIsGreatestSpec : ChangeSpec := { name := "ancestryBaseIsGreatest", fn := fun _ => fun
  | [d1, d2, d3, d4] => { results := [.lit (.bool true)], args := [d1, d2, d3, d4] }
  | _ => none }
def ancestryBaseIsGreatestRow : OpenClaim := { program := "ytjoilgpleaemcaa", sum := "f861927bd54b4b651b871ec17559e021fb7d45a7c49f15ceda7f6abaf527f94a", func := "versionmap/versionmaplaw21.AncestryBaseIsGreatest", spec := "ancestryBaseIsGreatest", unfollowed := true, recurses := true, apart := false }
def AncestryBaseIsGreatestSaid : Prop := ancestryBaseIsGreatestRow.holds Try.pinned (OpenSpec.ofChange ancestryBaseIsGreatestSpec)

/-- ITS FALSE NEIGHBOUR: 'it returns false'. Refute it at one input. -/
def ancestryBaseIsGreatestWrong : ChangeSpec := { name := "ancestryBaseIsGreatest", fn := fun _ => fun
  | [d1, d2, d3, d4] => { results := [.lit (.bool false)], args := [d1, d2, d3, d4] }
  | _ => none }
def AncestryBaseIsGreatestWrongFalsely : Prop := ancestryBaseIsGreatestRow.holds Try.pinned (OpenSpec.ofChange ancestryBaseIsGreatestWrong)

/-- 'versionmaplaw21.AncestryKeepsOnlyBases': WHATEVER THE INPUT: true; the input reads as it did. -/
def ancestryKeepsOnlyBasesSpec : ChangeSpec := { name := "ancestryKeepsOnlyBases", fn := fun _ => fun
  | [d1, d2] => { results := [.lit (.bool true)], args := [d1, d2] }
  | _ => none }
def ancestryKeepsOnlyBasesRow : OpenClaim := { program := "ytjoilgpleaemcaa", sum := "f861927bd54b4b651b871ec17559e021fb7d45a7c49f15ceda7f6abaf527f94a", func := "versionmap/versionmaplaw21.AncestryKeepsOnlyBases", spec := "ancestryKeepsOnlyBases", unfollowed := true, recurses := true, apart := false }
def AncestryKeepsOnlyBasesSaid : Prop := ancestryKeepsOnlyBasesRow.holds Try.pinned (OpenSpec.ofChange ancestryKeepsOnlyBasesSpec)

/-- ITS FALSE NEIGHBOUR: 'it returns false'. Refute it at one input. -/
def ancestryKeepsOnlyBasesWrong : ChangeSpec := { name := "ancestryKeepsOnlyBases", fn := fun _ => fun
  | [d1, d2] => { results := [.lit (.bool false)], args := [d1, d2] }
  | _ => none }
def AncestryKeepsOnlyBasesWrongFalsely : Prop := ancestryKeepsOnlyBasesRow.holds Try.pinned (OpenSpec.ofChange ancestryKeepsOnlyBasesWrong)

/- THE SECOND FORM. 'bulk': how many values and letters a reading holds, each counted each time it is reached (what is shared counts as often as it is met; a slice's spare places count too). A statement '..UptoSaid' is the law's where the arguments, and the package variables that the reading takes, are together of bulk at most 1048576: NARROWER than '..Said'. Prove '..Said' where nothing that the law and all that it calls make is longer than what came in: it says more and counts as full. Else prove '..UptoSaid'. A law counts once. -/
mutual
def uptoBulk {H : Type} : DataW H → Nat
  | .lit (.string bytes) => bytes.length + 1
  | .lit _ => 1
  | .nil => 1
  | .ptr d => uptoBulk d + 1
  | .slice elems spare => uptoBulkAll elems + uptoBulkAll spare + 1
  | .agg parts => uptoBulkAll parts + 1
  | .iface _ d => uptoBulk d + 1
  | .map entries => uptoBulkEntries entries + 1
  | .held _ => 1
def uptoBulkAll {H : Type} : List (DataW H) → Nat
  | [] => 0
  | d :: r => uptoBulk d + uptoBulkAll r
def uptoBulkEntries {H : Type} : List (Lit × DataW H) → Nat
  | [] => 0
  | x :: r => uptoBulkEntry x + uptoBulkEntries r
def uptoBulkEntry {H : Type} : Lit × DataW H → Nat
  | (.string bytes, d) => bytes.length + uptoBulk d + 1
  | (_, d) => uptoBulk d + 1
 end
def uptoSmall : (H : Type) → List (DataW H) → Bool := fun _ ds => decide (uptoBulkAll ds ≤ 1048576)
def OpenSpec.upto (s : _root_.Go.ChangeSpec) : _root_.Go.OpenSpec := { _root_.Go.OpenSpec.ofChange s with cond := some uptoSmall }

/-- 'versionmaplaw21.AncestryNew', WHERE WHAT IT READS IS OF BULK AT MOST 1048576: true; the input reads as it did. -/
def ancestryNewUptoRow : OpenClaim := { program := "ytjoilgpleaemcaa", sum := "f861927bd54b4b651b871ec17559e021fb7d45a7c49f15ceda7f6abaf527f94a", func := "versionmap/versionmaplaw21.AncestryNew", spec := "ancestryNew", unfollowed := true, recurses := true, apart := false, narrowed := true }
def AncestryNewUptoSaid : Prop := ancestryNewUptoRow.holds Try.pinned (OpenSpec.upto ancestryNewSpec)

/-- 'versionmaplaw21.AncestryForgets', WHERE WHAT IT READS IS OF BULK AT MOST 1048576: true; the input reads as it did. -/
def ancestryForgetsUptoRow : OpenClaim := { program := "ytjoilgpleaemcaa", sum := "f861927bd54b4b651b871ec17559e021fb7d45a7c49f15ceda7f6abaf527f94a", func := "versionmap/versionmaplaw21.AncestryForgets", spec := "ancestryForgets", unfollowed := true, recurses := true, apart := false, narrowed := true }
def AncestryForgetsUptoSaid : Prop := ancestryForgetsUptoRow.holds Try.pinned (OpenSpec.upto ancestryForgetsSpec)

/-- 'versionmaplaw21.AncestryStaysSmall', WHERE WHAT IT READS IS OF BULK AT MOST 1048576: true; the input reads as it did. -/
def ancestryStaysSmallUptoRow : OpenClaim := { program := "ytjoilgpleaemcaa", sum := "f861927bd54b4b651b871ec17559e021fb7d45a7c49f15ceda7f6abaf527f94a", func := "versionmap/versionmaplaw21.AncestryStaysSmall", spec := "ancestryStaysSmall", unfollowed := true, recurses := true, apart := false, narrowed := true }
def AncestryStaysSmallUptoSaid : Prop := ancestryStaysSmallUptoRow.holds Try.pinned (OpenSpec.upto ancestryStaysSmallSpec)

/-- 'versionmaplaw21.AncestryNumbersAreNew', WHERE WHAT IT READS IS OF BULK AT MOST 1048576: true; the input reads as it did. -/
def ancestryNumbersAreNewUptoRow : OpenClaim := { program := "ytjoilgpleaemcaa", sum := "f861927bd54b4b651b871ec17559e021fb7d45a7c49f15ceda7f6abaf527f94a", func := "versionmap/versionmaplaw21.AncestryNumbersAreNew", spec := "ancestryNumbersAreNew", unfollowed := true, recurses := true, apart := false, narrowed := true }
def AncestryNumbersAreNewUptoSaid : Prop := ancestryNumbersAreNewUptoRow.holds Try.pinned (OpenSpec.upto ancestryNumbersAreNewSpec)

/-- 'versionmaplaw21.AncestryAgrees', WHERE WHAT IT READS IS OF BULK AT MOST 1048576: true; the input reads as it did. -/
def ancestryAgreesUptoRow : OpenClaim := { program := "ytjoilgpleaemcaa", sum := "f861927bd54b4b651b871ec17559e021fb7d45a7c49f15ceda7f6abaf527f94a", func := "versionmap/versionmaplaw21.AncestryAgrees", spec := "ancestryAgrees", unfollowed := true, recurses := true, apart := false, narrowed := true }
def AncestryAgreesUptoSaid : Prop := ancestryAgreesUptoRow.holds Try.pinned (OpenSpec.upto ancestryAgreesSpec)

/-- 'versionmaplaw21.AncestryBaseIsGreatest', WHERE WHAT IT READS IS OF BULK AT MOST 1048576: true; the input reads as it did. -/
def ancestryBaseIsGreatestUptoRow : OpenClaim := { program := "ytjoilgpleaemcaa", sum := "f861927bd54b4b651b871ec17559e021fb7d45a7c49f15ceda7f6abaf527f94a", func := "versionmap/versionmaplaw21.AncestryBaseIsGreatest", spec := "ancestryBaseIsGreatest", unfollowed := true, recurses := true, apart := false, narrowed := true }
def AncestryBaseIsGreatestUptoSaid : Prop := ancestryBaseIsGreatestUptoRow.holds Try.pinned (OpenSpec.upto ancestryBaseIsGreatestSpec)

/-- 'versionmaplaw21.AncestryKeepsOnlyBases', WHERE WHAT IT READS IS OF BULK AT MOST 1048576: true; the input reads as it did. -/
def ancestryKeepsOnlyBasesUptoRow : OpenClaim := { program := "ytjoilgpleaemcaa", sum := "f861927bd54b4b651b871ec17559e021fb7d45a7c49f15ceda7f6abaf527f94a", func := "versionmap/versionmaplaw21.AncestryKeepsOnlyBases", spec := "ancestryKeepsOnlyBases", unfollowed := true, recurses := true, apart := false, narrowed := true }
def AncestryKeepsOnlyBasesUptoSaid : Prop := ancestryKeepsOnlyBasesUptoRow.holds Try.pinned (OpenSpec.upto ancestryKeepsOnlyBasesSpec)

end Rows
end Go.Proofs.Ytjoilgpleaemcaa
