/-
  No cell of these rows narrows 'for every input' (looked for: loops, veiled, ifaces, maps, wideKeys, modest, calm, conditions, laid).
  DERIVED. THE GIVEN ROWS OF THIS SEAT. 6 by the template 'for every input the law returns true; each argument reads behind the call as it read before'; 0 by the template 'total and deterministic' (their statements: YtlnlnebibgdjdaaTotals.lean).
  GIVEN WITH THE SEED: the statements are not yours to turn. If you find one false, say at which input.
  Laid BY PROGRAM, IN A SANDBOX (cutbox-rows.mjs): the forced cells as the released guide's own fill.sh prints them over the translation 29e8654f12b18c4d… (all of the seat's roots in one cut). By AI agents, Wed Nov 11 2026. No macro, syntax, notation, axiom, sorry.
-/
import Derived.Test.YtlnlnebibgdjdaaChecked
import GoSem.Claim
import GoSem.ClaimJoined
import GoSem.ClaimMapViews
import Derived.JoinedTies
import Derived.KernelRfl
namespace Go.Proofs.Ytlnlnebibgdjdaa
/- THE CELL 'sum', in the pinned program and in every row, IS THE sha256 OF THE DUMP (.gsa) THAT YtlnlnebibgdjdaaProg.lean LOADS. Nothing in Lean hashes anything: it is a label: what it is worth is what the hold of that sum in a sandbox is worth. -/
noncomputable def Try.pinned : Pinned := { name := "ytlnlnebibgdjdaa", sum := "29e8654f12b18c4da1e9829da9b36f85606c28dc1f38e796dc5419ff2b272353", checked := Try.checked }
namespace Rows
def none {H : Type} : Left H := { results := [], args := [] }

/-- 'versionmaplaw22.VersionsNew': WHATEVER THE INPUT: true; the input reads as it did. -/
def versionsNewSpec : ChangeSpec := { name := "versionsNew", fn := fun _ => fun
  | [d1, d2, d3] => { results := [.lit (.bool true)], args := [d1, d2, d3] }
  | _ => none }
def versionsNewRow : OpenClaim := { program := "ytlnlnebibgdjdaa", sum := "29e8654f12b18c4da1e9829da9b36f85606c28dc1f38e796dc5419ff2b272353", func := "versionmap/versionmaplaw22.VersionsNew", spec := "versionsNew", unfollowed := true, recurses := true, apart := false }
def VersionsNewSaid : Prop := versionsNewRow.holds Try.pinned (OpenSpec.ofChange versionsNewSpec)

/-- ITS FALSE NEIGHBOUR: 'it returns false'. Refute it at one input. -/
def versionsNewWrong : ChangeSpec := { name := "versionsNew", fn := fun _ => fun
  | [d1, d2, d3] => { results := [.lit (.bool false)], args := [d1, d2, d3] }
  | _ => none }
def VersionsNewWrongFalsely : Prop := versionsNewRow.holds Try.pinned (OpenSpec.ofChange versionsNewWrong)

/-- 'versionmaplaw22.VersionsForget': WHATEVER THE INPUT: true; the input reads as it did. -/
def versionsForgetSpec : ChangeSpec := { name := "versionsForget", fn := fun _ => fun
  | [d] => { results := [.lit (.bool true)], args := [d] }
  | _ => none }
def versionsForgetRow : OpenClaim := { program := "ytlnlnebibgdjdaa", sum := "29e8654f12b18c4da1e9829da9b36f85606c28dc1f38e796dc5419ff2b272353", func := "versionmap/versionmaplaw22.VersionsForget", spec := "versionsForget", unfollowed := true, recurses := true, apart := false }
def VersionsForgetSaid : Prop := versionsForgetRow.holds Try.pinned (OpenSpec.ofChange versionsForgetSpec)

/-- ITS FALSE NEIGHBOUR: 'it returns false'. Refute it at one input. -/
def versionsForgetWrong : ChangeSpec := { name := "versionsForget", fn := fun _ => fun
  | [d] => { results := [.lit (.bool false)], args := [d] }
  | _ => none }
def VersionsForgetWrongFalsely : Prop := versionsForgetRow.holds Try.pinned (OpenSpec.ofChange versionsForgetWrong)

/-- 'versionmaplaw27.HistoryReplays': WHATEVER THE INPUT: true; the input reads as it did. -/
def historyReplaysSpec : ChangeSpec := { name := "historyReplays", fn := fun _ => fun
  | [d1, d2, d3] => { results := [.lit (.bool true)], args := [d1, d2, d3] }
  | _ => none }
def historyReplaysRow : OpenClaim := { program := "ytlnlnebibgdjdaa", sum := "29e8654f12b18c4da1e9829da9b36f85606c28dc1f38e796dc5419ff2b272353", func := "versionmap/versionmaplaw27.HistoryReplays", spec := "historyReplays", unfollowed := true, recurses := true, apart := false }
def HistoryReplaysSaid : Prop := historyReplaysRow.holds Try.pinned (OpenSpec.ofChange historyReplaysSpec)

/-- ITS FALSE NEIGHBOUR: 'it returns false'. Refute it at one input. -/
def historyReplaysWrong : ChangeSpec := { name := "historyReplays", fn := fun _ => fun
  | [d1, d2, d3] => { results := [.lit (.bool false)], args := [d1, d2, d3] }
  | _ => none }
def HistoryReplaysWrongFalsely : Prop := historyReplaysRow.holds Try.pinned (OpenSpec.ofChange historyReplaysWrong)

/-- 'versionmaplaw27.HistoryOriginIsLastEvent': WHATEVER THE INPUT: true; the input reads as it did. -/
def historyOriginIsLastEventSpec : ChangeSpec := { name := "historyOriginIsLastEvent", fn := fun _ => fun
  | [d1, d2, d3] => { results := [.lit (.bool true)], args := [d1, d2, d3] }
  | _ => none }
def historyOriginIsLastEventRow : OpenClaim := { program := "ytlnlnebibgdjdaa", sum := "29e8654f12b18c4da1e9829da9b36f85606c28dc1f38e796dc5419ff2b272353", func := "versionmap/versionmaplaw27.HistoryOriginIsLastEvent", spec := "historyOriginIsLastEvent", unfollowed := true, recurses := true, apart := false }
def HistoryOriginIsLastEventSaid : Prop := historyOriginIsLastEventRow.holds Try.pinned (OpenSpec.ofChange historyOriginIsLastEventSpec)

/-- ITS FALSE NEIGHBOUR: 'it returns false'. Refute it at one input. -/
def historyOriginIsLastEventWrong : ChangeSpec := { name := "historyOriginIsLastEvent", fn := fun _ => fun
  | [d1, d2, d3] => { results := [.lit (.bool false)], args := [d1, d2, d3] }
  | _ => none }
def HistoryOriginIsLastEventWrongFalsely : Prop := historyOriginIsLastEventRow.holds Try.pinned (OpenSpec.ofChange historyOriginIsLastEventWrong)

/-- 'versionmaplaw26.TxnLimit': WHATEVER THE INPUT: true; the input reads as it did. -/
def txnLimitSpec : ChangeSpec := { name := "txnLimit", fn := fun _ => fun
  | [d1, d2] => { results := [.lit (.bool true)], args := [d1, d2] }
  | _ => none }
def txnLimitRow : OpenClaim := { program := "ytlnlnebibgdjdaa", sum := "29e8654f12b18c4da1e9829da9b36f85606c28dc1f38e796dc5419ff2b272353", func := "versionmap/versionmaplaw26.TxnLimit", spec := "txnLimit", unfollowed := true, recurses := true, apart := false }
def TxnLimitSaid : Prop := txnLimitRow.holds Try.pinned (OpenSpec.ofChange txnLimitSpec)

/-- ITS FALSE NEIGHBOUR: 'it returns false'. Refute it at one input. -/
def txnLimitWrong : ChangeSpec := { name := "txnLimit", fn := fun _ => fun
  | [d1, d2] => { results := [.lit (.bool false)], args := [d1, d2] }
  | _ => none }
def TxnLimitWrongFalsely : Prop := txnLimitRow.holds Try.pinned (OpenSpec.ofChange txnLimitWrong)

/-- 'versionmaplaw26.TxnConflictsAreReal': WHATEVER THE INPUT: true; the input reads as it did. -/
def txnConflictsAreRealSpec : ChangeSpec := { name := "txnConflictsAreReal", fn := fun _ => fun
  | [d1, d2, d3, d4, d5, d6] => { results := [.lit (.bool true)], args := [d1, d2, d3, d4, d5, d6] }
  | _ => none }
def txnConflictsAreRealRow : OpenClaim := { program := "ytlnlnebibgdjdaa", sum := "29e8654f12b18c4da1e9829da9b36f85606c28dc1f38e796dc5419ff2b272353", func := "versionmap/versionmaplaw26.TxnConflictsAreReal", spec := "txnConflictsAreReal", unfollowed := true, recurses := true, apart := false }
def TxnConflictsAreRealSaid : Prop := txnConflictsAreRealRow.holds Try.pinned (OpenSpec.ofChange txnConflictsAreRealSpec)

/-- ITS FALSE NEIGHBOUR: 'it returns false'. Refute it at one input. -/
def txnConflictsAreRealWrong : ChangeSpec := { name := "txnConflictsAreReal", fn := fun _ => fun
  | [d1, d2, d3, d4, d5, d6] => { results := [.lit (.bool false)], args := [d1, d2, d3, d4, d5, d6] }
  | _ => none }
def TxnConflictsAreRealWrongFalsely : Prop := txnConflictsAreRealRow.holds Try.pinned (OpenSpec.ofChange txnConflictsAreRealWrong)

/- THE SECOND FORM. 'bulk': how many values and letters a reading holds, each counted each time it is reached (what is shared counts as often as it is met; a slice's spare places count too). A statement '..UptoSaid' is the law's where the arguments, and the package variables that the reading takes, are together of bulk at most 1048576: NARROWER than '..Said'. Prove '..Said' where nothing that the law and all that it calls make is longer than what came in: it says more and counts as full. Else prove '..UptoSaid'. A law counts once. -/
mutual
def uptoBulk {H : Type} : DataW H → Nat
  | .lit (.string bytes) => bytes.length + 1
  | .lit _ => 1
  | .nil => 1
  | .ptr d => uptoBulk d + 1
  | .slice elems spare => uptoBulkAll elems + uptoBulkAll spare + 1
  | .agg parts => uptoBulkAll parts + 1
  | .iface _ d => uptoBulk d + 1
  | .map entries => uptoBulkEntries entries + 1
  | .held _ => 1
def uptoBulkAll {H : Type} : List (DataW H) → Nat
  | [] => 0
  | d :: r => uptoBulk d + uptoBulkAll r
def uptoBulkEntries {H : Type} : List (Lit × DataW H) → Nat
  | [] => 0
  | x :: r => uptoBulkEntry x + uptoBulkEntries r
def uptoBulkEntry {H : Type} : Lit × DataW H → Nat
  | (.string bytes, d) => bytes.length + uptoBulk d + 1
  | (_, d) => uptoBulk d + 1
 end
def uptoSmall : (H : Type) → List (DataW H) → Bool := fun _ ds => decide (uptoBulkAll ds ≤ 1048576)
def OpenSpec.upto (s : _root_.Go.ChangeSpec) : _root_.Go.OpenSpec := { _root_.Go.OpenSpec.ofChange s with cond := some uptoSmall }

/-- 'versionmaplaw22.VersionsNew', WHERE WHAT IT READS IS OF BULK AT MOST 1048576: true; the input reads as it did. -/
def versionsNewUptoRow : OpenClaim := { program := "ytlnlnebibgdjdaa", sum := "29e8654f12b18c4da1e9829da9b36f85606c28dc1f38e796dc5419ff2b272353", func := "versionmap/versionmaplaw22.VersionsNew", spec := "versionsNew", unfollowed := true, recurses := true, apart := false, narrowed := true }
def VersionsNewUptoSaid : Prop := versionsNewUptoRow.holds Try.pinned (OpenSpec.upto versionsNewSpec)

/-- 'versionmaplaw22.VersionsForget', WHERE WHAT IT READS IS OF BULK AT MOST 1048576: true; the input reads as it did. -/
def versionsForgetUptoRow : OpenClaim := { program := "ytlnlnebibgdjdaa", sum := "29e8654f12b18c4da1e9829da9b36f85606c28dc1f38e796dc5419ff2b272353", func := "versionmap/versionmaplaw22.VersionsForget", spec := "versionsForget", unfollowed := true, recurses := true, apart := false, narrowed := true }
def VersionsForgetUptoSaid : Prop := versionsForgetUptoRow.holds Try.pinned (OpenSpec.upto versionsForgetSpec)

/-- 'versionmaplaw27.HistoryReplays', WHERE WHAT IT READS IS OF BULK AT MOST 1048576: true; the input reads as it did. -/
def historyReplaysUptoRow : OpenClaim := { program := "ytlnlnebibgdjdaa", sum := "29e8654f12b18c4da1e9829da9b36f85606c28dc1f38e796dc5419ff2b272353", func := "versionmap/versionmaplaw27.HistoryReplays", spec := "historyReplays", unfollowed := true, recurses := true, apart := false, narrowed := true }
def HistoryReplaysUptoSaid : Prop := historyReplaysUptoRow.holds Try.pinned (OpenSpec.upto historyReplaysSpec)

/-- 'versionmaplaw27.HistoryOriginIsLastEvent', WHERE WHAT IT READS IS OF BULK AT MOST 1048576: true; the input reads as it did. -/
def historyOriginIsLastEventUptoRow : OpenClaim := { program := "ytlnlnebibgdjdaa", sum := "29e8654f12b18c4da1e9829da9b36f85606c28dc1f38e796dc5419ff2b272353", func := "versionmap/versionmaplaw27.HistoryOriginIsLastEvent", spec := "historyOriginIsLastEvent", unfollowed := true, recurses := true, apart := false, narrowed := true }
def HistoryOriginIsLastEventUptoSaid : Prop := historyOriginIsLastEventUptoRow.holds Try.pinned (OpenSpec.upto historyOriginIsLastEventSpec)

/-- 'versionmaplaw26.TxnLimit', WHERE WHAT IT READS IS OF BULK AT MOST 1048576: true; the input reads as it did. -/
def txnLimitUptoRow : OpenClaim := { program := "ytlnlnebibgdjdaa", sum := "29e8654f12b18c4da1e9829da9b36f85606c28dc1f38e796dc5419ff2b272353", func := "versionmap/versionmaplaw26.TxnLimit", spec := "txnLimit", unfollowed := true, recurses := true, apart := false, narrowed := true }
def TxnLimitUptoSaid : Prop := txnLimitUptoRow.holds Try.pinned (OpenSpec.upto txnLimitSpec)

/-- 'versionmaplaw26.TxnConflictsAreReal', WHERE WHAT IT READS IS OF BULK AT MOST 1048576: true; the input reads as it did. -/
def txnConflictsAreRealUptoRow : OpenClaim := { program := "ytlnlnebibgdjdaa", sum := "29e8654f12b18c4da1e9829da9b36f85606c28dc1f38e796dc5419ff2b272353", func := "versionmap/versionmaplaw26.TxnConflictsAreReal", spec := "txnConflictsAreReal", unfollowed := true, recurses := true, apart := false, narrowed := true }
def TxnConflictsAreRealUptoSaid : Prop := txnConflictsAreRealUptoRow.holds Try.pinned (OpenSpec.upto txnConflictsAreRealSpec)

end Rows
end Go.Proofs.Ytlnlnebibgdjdaa
