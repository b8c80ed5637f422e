/-
  No cell of these rows narrows 'for every input' (looked for: loops, veiled, ifaces, maps, wideKeys, modest, calm, conditions, laid).
  DERIVED. THE GIVEN ROWS OF THIS SEAT. 6 by the template 'for every input the law returns true; each argument reads behind the call as it read before'; 0 by the template 'total and deterministic' (their statements: YtofnoopjlmdelaaTotals.lean).
  GIVEN WITH THE SEED: the statements are not yours to turn. If you find one false, say at which input.
  Laid BY PROGRAM, IN A SANDBOX (cutbox-rows.mjs): the forced cells as the released guide's own fill.sh prints them over the translation d530640d896fff4b… (all of the seat's roots in one cut). By AI agents, Wed Nov 11 2026. No macro, syntax, notation, axiom, sorry.
-/
import Derived.Test.YtofnoopjlmdelaaChecked
import GoSem.Claim
import GoSem.ClaimJoined
import GoSem.ClaimMapViews
import Derived.JoinedTies
import Derived.KernelRfl
namespace Go.Proofs.Ytofnoopjlmdelaa
/- THE CELL 'sum', in the pinned program and in every row, IS THE sha256 OF THE DUMP (.gsa) THAT YtofnoopjlmdelaaProg.lean LOADS. Nothing in Lean hashes anything: it is a label: what it is worth is what the hold of that sum in a sandbox is worth. -/
noncomputable def Try.pinned : Pinned := { name := "ytofnoopjlmdelaa", sum := "d530640d896fff4bd37df614fed95310d64a29a551a4ee79ab2655cab9a5be8d", checked := Try.checked }
namespace Rows
def none {H : Type} : Left H := { results := [], args := [] }

/-- 'versionmaplaw30.OpcodeValidates': WHATEVER THE INPUT: true; the input reads as it did. -/
def opcodeValidatesSpec : ChangeSpec := { name := "opcodeValidates", fn := fun _ => fun
  | [d1, d2, d3, d4] => { results := [.lit (.bool true)], args := [d1, d2, d3, d4] }
  | _ => none }
def opcodeValidatesRow : OpenClaim := { program := "ytofnoopjlmdelaa", sum := "d530640d896fff4bd37df614fed95310d64a29a551a4ee79ab2655cab9a5be8d", func := "versionmap/versionmaplaw30.OpcodeValidates", spec := "opcodeValidates", apart := false }
def OpcodeValidatesSaid : Prop := opcodeValidatesRow.holds Try.pinned (OpenSpec.ofChange opcodeValidatesSpec)

/-- ITS FALSE NEIGHBOUR: 'it returns false'. Refute it at one input. -/
def opcodeValidatesWrong : ChangeSpec := { name := "opcodeValidates", fn := fun _ => fun
  | [d1, d2, d3, d4] => { results := [.lit (.bool false)], args := [d1, d2, d3, d4] }
  | _ => none }
def OpcodeValidatesWrongFalsely : Prop := opcodeValidatesRow.holds Try.pinned (OpenSpec.ofChange opcodeValidatesWrong)

/-- 'versionmaplaw30.OpcodeReadsAnswers': WHATEVER THE INPUT: true; the input reads as it did. -/
def opcodeReadsAnswersSpec : ChangeSpec := { name := "opcodeReadsAnswers", fn := fun _ => fun
  | [d1, d2, d3, d4, d5, d6] => { results := [.lit (.bool true)], args := [d1, d2, d3, d4, d5, d6] }
  | _ => none }
def opcodeReadsAnswersRow : OpenClaim := { program := "ytofnoopjlmdelaa", sum := "d530640d896fff4bd37df614fed95310d64a29a551a4ee79ab2655cab9a5be8d", func := "versionmap/versionmaplaw30.OpcodeReadsAnswers", spec := "opcodeReadsAnswers", apart := false }
def OpcodeReadsAnswersSaid : Prop := opcodeReadsAnswersRow.holds Try.pinned (OpenSpec.ofChange opcodeReadsAnswersSpec)

/-- ITS FALSE NEIGHBOUR: 'it returns false'. Refute it at one input. -/
def opcodeReadsAnswersWrong : ChangeSpec := { name := "opcodeReadsAnswers", fn := fun _ => fun
  | [d1, d2, d3, d4, d5, d6] => { results := [.lit (.bool false)], args := [d1, d2, d3, d4, d5, d6] }
  | _ => none }
def OpcodeReadsAnswersWrongFalsely : Prop := opcodeReadsAnswersRow.holds Try.pinned (OpenSpec.ofChange opcodeReadsAnswersWrong)

/-- 'versionmaplaw30.OpcodeRoundTrip': WHATEVER THE INPUT: true; the input reads as it did. -/
def opcodeRoundTripSpec : ChangeSpec := { name := "opcodeRoundTrip", fn := fun _ => fun
  | [d1, d2] => { results := [.lit (.bool true)], args := [d1, d2] }
  | _ => none }
def opcodeRoundTripRow : OpenClaim := { program := "ytofnoopjlmdelaa", sum := "d530640d896fff4bd37df614fed95310d64a29a551a4ee79ab2655cab9a5be8d", func := "versionmap/versionmaplaw30.OpcodeRoundTrip", spec := "opcodeRoundTrip", apart := false }
def OpcodeRoundTripSaid : Prop := opcodeRoundTripRow.holds Try.pinned (OpenSpec.ofChange opcodeRoundTripSpec)

/-- ITS FALSE NEIGHBOUR: 'it returns false'. Refute it at one input. -/
def opcodeRoundTripWrong : ChangeSpec := { name := "opcodeRoundTrip", fn := fun _ => fun
  | [d1, d2] => { results := [.lit (.bool false)], args := [d1, d2] }
  | _ => none }
def OpcodeRoundTripWrongFalsely : Prop := opcodeRoundTripRow.holds Try.pinned (OpenSpec.ofChange opcodeRoundTripWrong)

/-- 'versionmaplaw30.OpcodeDecodes': WHATEVER THE INPUT: true; the input reads as it did. -/
def opcodeDecodesSpec : ChangeSpec := { name := "opcodeDecodes", fn := fun _ => fun
  | [d1, d2, d3, d4, d5, d6] => { results := [.lit (.bool true)], args := [d1, d2, d3, d4, d5, d6] }
  | _ => none }
def opcodeDecodesRow : OpenClaim := { program := "ytofnoopjlmdelaa", sum := "d530640d896fff4bd37df614fed95310d64a29a551a4ee79ab2655cab9a5be8d", func := "versionmap/versionmaplaw30.OpcodeDecodes", spec := "opcodeDecodes", apart := false }
def OpcodeDecodesSaid : Prop := opcodeDecodesRow.holds Try.pinned (OpenSpec.ofChange opcodeDecodesSpec)

/-- ITS FALSE NEIGHBOUR: 'it returns false'. Refute it at one input. -/
def opcodeDecodesWrong : ChangeSpec := { name := "opcodeDecodes", fn := fun _ => fun
  | [d1, d2, d3, d4, d5, d6] => { results := [.lit (.bool false)], args := [d1, d2, d3, d4, d5, d6] }
  | _ => none }
def OpcodeDecodesWrongFalsely : Prop := opcodeDecodesRow.holds Try.pinned (OpenSpec.ofChange opcodeDecodesWrong)

/-- 'versionmaplaw30.OpcodeIsCanonical': WHATEVER THE INPUT: true; the input reads as it did. -/
def opcodeIsCanonicalSpec : ChangeSpec := { name := "opcodeIsCanonical", fn := fun _ => fun
  | [d1, d2] => { results := [.lit (.bool true)], args := [d1, d2] }
  | _ => none }
def opcodeIsCanonicalRow : OpenClaim := { program := "ytofnoopjlmdelaa", sum := "d530640d896fff4bd37df614fed95310d64a29a551a4ee79ab2655cab9a5be8d", func := "versionmap/versionmaplaw30.OpcodeIsCanonical", spec := "opcodeIsCanonical", apart := false }
def OpcodeIsCanonicalSaid : Prop := opcodeIsCanonicalRow.holds Try.pinned (OpenSpec.ofChange opcodeIsCanonicalSpec)

/-- ITS FALSE NEIGHBOUR: 'it returns false'. Refute it at one input. -/
def opcodeIsCanonicalWrong : ChangeSpec := { name := "opcodeIsCanonical", fn := fun _ => fun
  | [d1, d2] => { results := [.lit (.bool false)], args := [d1, d2] }
  | _ => none }
def OpcodeIsCanonicalWrongFalsely : Prop := opcodeIsCanonicalRow.holds Try.pinned (OpenSpec.ofChange opcodeIsCanonicalWrong)

/-- 'versionmaplaw30.OpcodeAnswers': WHATEVER THE INPUT: true; the input reads as it did. -/
def opcodeAnswersSpec : ChangeSpec := { name := "opcodeAnswers", fn := fun _ => fun
  | [d1, d2, d3] => { results := [.lit (.bool true)], args := [d1, d2, d3] }
  | _ => none }
def opcodeAnswersRow : OpenClaim := { program := "ytofnoopjlmdelaa", sum := "d530640d896fff4bd37df614fed95310d64a29a551a4ee79ab2655cab9a5be8d", func := "versionmap/versionmaplaw30.OpcodeAnswers", spec := "opcodeAnswers", apart := false }
def OpcodeAnswersSaid : Prop := opcodeAnswersRow.holds Try.pinned (OpenSpec.ofChange opcodeAnswersSpec)

/-- ITS FALSE NEIGHBOUR: 'it returns false'. Refute it at one input. -/
def opcodeAnswersWrong : ChangeSpec := { name := "opcodeAnswers", fn := fun _ => fun
  | [d1, d2, d3] => { results := [.lit (.bool false)], args := [d1, d2, d3] }
  | _ => none }
def OpcodeAnswersWrongFalsely : Prop := opcodeAnswersRow.holds Try.pinned (OpenSpec.ofChange opcodeAnswersWrong)

/- THE SECOND FORM. 'bulk': how many values and letters a reading holds, each counted each time it is reached (what is shared counts as often as it is met; a slice's spare places count too). A statement '..UptoSaid' is the law's where the arguments, and the package variables that the reading takes, are together of bulk at most 1048576: NARROWER than '..Said'. Prove '..Said' where nothing that the law and all that it calls make is longer than what came in: it says more and counts as full. Else prove '..UptoSaid'. A law counts once. -/
mutual
def uptoBulk {H : Type} : DataW H → Nat
  | .lit (.string bytes) => bytes.length + 1
  | .lit _ => 1
  | .nil => 1
  | .ptr d => uptoBulk d + 1
  | .slice elems spare => uptoBulkAll elems + uptoBulkAll spare + 1
  | .agg parts => uptoBulkAll parts + 1
  | .iface _ d => uptoBulk d + 1
  | .map entries => uptoBulkEntries entries + 1
  | .held _ => 1
def uptoBulkAll {H : Type} : List (DataW H) → Nat
  | [] => 0
  | d :: r => uptoBulk d + uptoBulkAll r
def uptoBulkEntries {H : Type} : List (Lit × DataW H) → Nat
  | [] => 0
  | x :: r => uptoBulkEntry x + uptoBulkEntries r
def uptoBulkEntry {H : Type} : Lit × DataW H → Nat
  | (.string bytes, d) => bytes.length + uptoBulk d + 1
  | (_, d) => uptoBulk d + 1
 end
def uptoSmall : (H : Type) → List (DataW H) → Bool := fun _ ds => decide (uptoBulkAll ds ≤ 1048576)
def OpenSpec.upto (s : _root_.Go.ChangeSpec) : _root_.Go.OpenSpec := { _root_.Go.OpenSpec.ofChange s with cond := some uptoSmall }

/-- 'versionmaplaw30.OpcodeValidates', WHERE WHAT IT READS IS OF BULK AT MOST 1048576: true; the input reads as it did. -/
def opcodeValidatesUptoRow : OpenClaim := { program := "ytofnoopjlmdelaa", sum := "d530640d896fff4bd37df614fed95310d64a29a551a4ee79ab2655cab9a5be8d", func := "versionmap/versionmaplaw30.OpcodeValidates", spec := "opcodeValidates", apart := false, narrowed := true }
def OpcodeValidatesUptoSaid : Prop := opcodeValidatesUptoRow.holds Try.pinned (OpenSpec.upto opcodeValidatesSpec)

/-- 'versionmaplaw30.OpcodeReadsAnswers', WHERE WHAT IT READS IS OF BULK AT MOST 1048576: true; the input reads as it did. -/
def opcodeReadsAnswersUptoRow : OpenClaim := { program := "ytofnoopjlmdelaa", sum := "d530640d896fff4bd37df614fed95310d64a29a551a4ee79ab2655cab9a5be8d", func := "versionmap/versionmaplaw30.OpcodeReadsAnswers", spec := "opcodeReadsAnswers", apart := false, narrowed := true }
def OpcodeReadsAnswersUptoSaid : Prop := opcodeReadsAnswersUptoRow.holds Try.pinned (OpenSpec.upto opcodeReadsAnswersSpec)

/-- 'versionmaplaw30.OpcodeRoundTrip', WHERE WHAT IT READS IS OF BULK AT MOST 1048576: true; the input reads as it did. -/
def opcodeRoundTripUptoRow : OpenClaim := { program := "ytofnoopjlmdelaa", sum := "d530640d896fff4bd37df614fed95310d64a29a551a4ee79ab2655cab9a5be8d", func := "versionmap/versionmaplaw30.OpcodeRoundTrip", spec := "opcodeRoundTrip", apart := false, narrowed := true }
def OpcodeRoundTripUptoSaid : Prop := opcodeRoundTripUptoRow.holds Try.pinned (OpenSpec.upto opcodeRoundTripSpec)

/-- 'versionmaplaw30.OpcodeDecodes', WHERE WHAT IT READS IS OF BULK AT MOST 1048576: true; the input reads as it did. -/
def opcodeDecodesUptoRow : OpenClaim := { program := "ytofnoopjlmdelaa", sum := "d530640d896fff4bd37df614fed95310d64a29a551a4ee79ab2655cab9a5be8d", func := "versionmap/versionmaplaw30.OpcodeDecodes", spec := "opcodeDecodes", apart := false, narrowed := true }
def OpcodeDecodesUptoSaid : Prop := opcodeDecodesUptoRow.holds Try.pinned (OpenSpec.upto opcodeDecodesSpec)

/-- 'versionmaplaw30.OpcodeIsCanonical', WHERE WHAT IT READS IS OF BULK AT MOST 1048576: true; the input reads as it did. -/
def opcodeIsCanonicalUptoRow : OpenClaim := { program := "ytofnoopjlmdelaa", sum := "d530640d896fff4bd37df614fed95310d64a29a551a4ee79ab2655cab9a5be8d", func := "versionmap/versionmaplaw30.OpcodeIsCanonical", spec := "opcodeIsCanonical", apart := false, narrowed := true }
def OpcodeIsCanonicalUptoSaid : Prop := opcodeIsCanonicalUptoRow.holds Try.pinned (OpenSpec.upto opcodeIsCanonicalSpec)

/-- 'versionmaplaw30.OpcodeAnswers', WHERE WHAT IT READS IS OF BULK AT MOST 1048576: true; the input reads as it did. -/
def opcodeAnswersUptoRow : OpenClaim := { program := "ytofnoopjlmdelaa", sum := "d530640d896fff4bd37df614fed95310d64a29a551a4ee79ab2655cab9a5be8d", func := "versionmap/versionmaplaw30.OpcodeAnswers", spec := "opcodeAnswers", apart := false, narrowed := true }
def OpcodeAnswersUptoSaid : Prop := opcodeAnswersUptoRow.holds Try.pinned (OpenSpec.upto opcodeAnswersSpec)

end Rows
end Go.Proofs.Ytofnoopjlmdelaa
