/-
  No cell of these rows narrows 'for every input' (looked for: loops, veiled, ifaces, maps, wideKeys, modest, calm, conditions, laid).
  DERIVED. THE GIVEN ROWS OF THIS SEAT. 6 by the template 'for every input the law returns true; each argument reads behind the call as it read before'; 0 by the template 'total and deterministic' (their statements: YtbeacjcmdijdmaaGreatTotals.lean).
  GIVEN WITH THE SEED: the statements are not yours to turn. If you find one false, say at which input.
  Laid BY PROGRAM, IN A SANDBOX (cutbox-rows.mjs): the forced cells as the released guide's own fill.sh prints them over the translation 239ed168d89692bb… (all of the seat's roots in one cut). By AI agents, Wed Nov 11 2026. No macro, syntax, notation, axiom, sorry.
-/
import Derived.Test.YtbeacjcmdijdmaaGreatChecked
import GoSem.Claim
import GoSem.ClaimJoined
import GoSem.ClaimMapViews
import Derived.JoinedTies
import Derived.KernelRfl
namespace Go.Proofs.YtbeacjcmdijdmaaGreat
/- THE CELL 'sum', in the pinned program and in every row, IS THE sha256 OF THE DUMP (.gsa) THAT YtbeacjcmdijdmaaGreatProg.lean LOADS. Nothing in Lean hashes anything: it is a label: what it is worth is what the hold of that sum in a sandbox is worth. -/
noncomputable def Tryz.pinned : Pinned := { name := "ytbeacjcmdijdmaagreat", sum := "239ed168d89692bbca63b39963bc9002c9f7f1c177e376e51deafbc34a752130", checked := Tryz.checked }
namespace Rows
def none {H : Type} : Left H := { results := [], args := [] }

/-- 'versionmaplaw22.VersionsReleaseAll': WHATEVER THE INPUT: true; the input reads as it did. -/
def versionsReleaseAllSpec : ChangeSpec := { name := "versionsReleaseAll", fn := fun _ => fun
  | [d1, d2] => { results := [.lit (.bool true)], args := [d1, d2] }
  | _ => none }
def versionsReleaseAllRow : OpenClaim := { program := "ytbeacjcmdijdmaagreat", sum := "239ed168d89692bbca63b39963bc9002c9f7f1c177e376e51deafbc34a752130", func := "versionmap/versionmaplaw22.VersionsReleaseAll", spec := "versionsReleaseAll", unfollowed := true, recurses := true, apart := false }
def VersionsReleaseAllSaid : Prop := versionsReleaseAllRow.holds Tryz.pinned (OpenSpec.ofChange versionsReleaseAllSpec)

/-- ITS FALSE NEIGHBOUR: 'it returns false'. Refute it at one input. -/
def versionsReleaseAllWrong : ChangeSpec := { name := "versionsReleaseAll", fn := fun _ => fun
  | [d1, d2] => { results := [.lit (.bool false)], args := [d1, d2] }
  | _ => none }
def VersionsReleaseAllWrongFalsely : Prop := versionsReleaseAllRow.holds Tryz.pinned (OpenSpec.ofChange versionsReleaseAllWrong)

/-- 'versionmaplaw22.VersionsBases': WHATEVER THE INPUT: true; the input reads as it did. -/
def versionsBasesSpec : ChangeSpec := { name := "versionsBases", fn := fun _ => fun
  | [d1, d2, d3] => { results := [.lit (.bool true)], args := [d1, d2, d3] }
  | _ => none }
def versionsBasesRow : OpenClaim := { program := "ytbeacjcmdijdmaagreat", sum := "239ed168d89692bbca63b39963bc9002c9f7f1c177e376e51deafbc34a752130", func := "versionmap/versionmaplaw22.VersionsBases", spec := "versionsBases", unfollowed := true, recurses := true, apart := false }
def VersionsBasesSaid : Prop := versionsBasesRow.holds Tryz.pinned (OpenSpec.ofChange versionsBasesSpec)

/-- ITS FALSE NEIGHBOUR: 'it returns false'. Refute it at one input. -/
def versionsBasesWrong : ChangeSpec := { name := "versionsBases", fn := fun _ => fun
  | [d1, d2, d3] => { results := [.lit (.bool false)], args := [d1, d2, d3] }
  | _ => none }
def VersionsBasesWrongFalsely : Prop := versionsBasesRow.holds Tryz.pinned (OpenSpec.ofChange versionsBasesWrong)

/-- 'versionmaplaw22.VersionsAgree': WHATEVER THE INPUT: true; the input reads as it did. -/
def versionsAgreeSpec : ChangeSpec := { name := "versionsAgree", fn := fun _ => fun
  | [d1, d2] => { results := [.lit (.bool true)], args := [d1, d2] }
  | _ => none }
def versionsAgreeRow : OpenClaim := { program := "ytbeacjcmdijdmaagreat", sum := "239ed168d89692bbca63b39963bc9002c9f7f1c177e376e51deafbc34a752130", func := "versionmap/versionmaplaw22.VersionsAgree", spec := "versionsAgree", unfollowed := true, recurses := true, apart := false }
def VersionsAgreeSaid : Prop := versionsAgreeRow.holds Tryz.pinned (OpenSpec.ofChange versionsAgreeSpec)

/-- ITS FALSE NEIGHBOUR: 'it returns false'. Refute it at one input. -/
def versionsAgreeWrong : ChangeSpec := { name := "versionsAgree", fn := fun _ => fun
  | [d1, d2] => { results := [.lit (.bool false)], args := [d1, d2] }
  | _ => none }
def VersionsAgreeWrongFalsely : Prop := versionsAgreeRow.holds Tryz.pinned (OpenSpec.ofChange versionsAgreeWrong)

/-- 'versionmaplaw26.TxnSerializes': WHATEVER THE INPUT: true; the input reads as it did. -/
def txnSerializesSpec : ChangeSpec := { name := "txnSerializes", fn := fun _ => fun
  | [d1, d2, d3] => { results := [.lit (.bool true)], args := [d1, d2, d3] }
  | _ => none }
def txnSerializesRow : OpenClaim := { program := "ytbeacjcmdijdmaagreat", sum := "239ed168d89692bbca63b39963bc9002c9f7f1c177e376e51deafbc34a752130", func := "versionmap/versionmaplaw26.TxnSerializes", spec := "txnSerializes", unfollowed := true, recurses := true, apart := false }
def TxnSerializesSaid : Prop := txnSerializesRow.holds Tryz.pinned (OpenSpec.ofChange txnSerializesSpec)

/-- ITS FALSE NEIGHBOUR: 'it returns false'. Refute it at one input. -/
def txnSerializesWrong : ChangeSpec := { name := "txnSerializes", fn := fun _ => fun
  | [d1, d2, d3] => { results := [.lit (.bool false)], args := [d1, d2, d3] }
  | _ => none }
def TxnSerializesWrongFalsely : Prop := txnSerializesRow.holds Tryz.pinned (OpenSpec.ofChange txnSerializesWrong)

/-- 'versionmaplaw26.TxnAgrees': WHATEVER THE INPUT: true; the input reads as it did. -/
def txnAgreesSpec : ChangeSpec := { name := "txnAgrees", fn := fun _ => fun
  | [d1, d2, d3] => { results := [.lit (.bool true)], args := [d1, d2, d3] }
  | _ => none }
def txnAgreesRow : OpenClaim := { program := "ytbeacjcmdijdmaagreat", sum := "239ed168d89692bbca63b39963bc9002c9f7f1c177e376e51deafbc34a752130", func := "versionmap/versionmaplaw26.TxnAgrees", spec := "txnAgrees", unfollowed := true, recurses := true, apart := false }
def TxnAgreesSaid : Prop := txnAgreesRow.holds Tryz.pinned (OpenSpec.ofChange txnAgreesSpec)

/-- ITS FALSE NEIGHBOUR: 'it returns false'. Refute it at one input. -/
def txnAgreesWrong : ChangeSpec := { name := "txnAgrees", fn := fun _ => fun
  | [d1, d2, d3] => { results := [.lit (.bool false)], args := [d1, d2, d3] }
  | _ => none }
def TxnAgreesWrongFalsely : Prop := txnAgreesRow.holds Tryz.pinned (OpenSpec.ofChange txnAgreesWrong)

/-- 'versionmaplaw26.TxnCommits': WHATEVER THE INPUT: true; the input reads as it did. -/
def txnCommitsSpec : ChangeSpec := { name := "txnCommits", fn := fun _ => fun
  | [d1, d2, d3, d4, d5] => { results := [.lit (.bool true)], args := [d1, d2, d3, d4, d5] }
  | _ => none }
def txnCommitsRow : OpenClaim := { program := "ytbeacjcmdijdmaagreat", sum := "239ed168d89692bbca63b39963bc9002c9f7f1c177e376e51deafbc34a752130", func := "versionmap/versionmaplaw26.TxnCommits", spec := "txnCommits", unfollowed := true, recurses := true, apart := false }
def TxnCommitsSaid : Prop := txnCommitsRow.holds Tryz.pinned (OpenSpec.ofChange txnCommitsSpec)

/-- ITS FALSE NEIGHBOUR: 'it returns false'. Refute it at one input. -/
def txnCommitsWrong : ChangeSpec := { name := "txnCommits", fn := fun _ => fun
  | [d1, d2, d3, d4, d5] => { results := [.lit (.bool false)], args := [d1, d2, d3, d4, d5] }
  | _ => none }
def TxnCommitsWrongFalsely : Prop := txnCommitsRow.holds Tryz.pinned (OpenSpec.ofChange txnCommitsWrong)

/- THE SECOND FORM. 'bulk': how many values and letters a reading holds, each counted each time it is reached (what is shared counts as often as it is met; a slice's spare places count too). A statement '..UptoSaid' is the law's where the arguments, and the package variables that the reading takes, are together of bulk at most 1048576: NARROWER than '..Said'. Prove '..Said' where nothing that the law and all that it calls make is longer than what came in: it says more and counts as full. Else prove '..UptoSaid'. A law counts once. -/
mutual
def uptoBulk {H : Type} : DataW H → Nat
  | .lit (.string bytes) => bytes.length + 1
  | .lit _ => 1
  | .nil => 1
  | .ptr d => uptoBulk d + 1
  | .slice elems spare => uptoBulkAll elems + uptoBulkAll spare + 1
  | .agg parts => uptoBulkAll parts + 1
  | .iface _ d => uptoBulk d + 1
  | .map entries => uptoBulkEntries entries + 1
  | .held _ => 1
def uptoBulkAll {H : Type} : List (DataW H) → Nat
  | [] => 0
  | d :: r => uptoBulk d + uptoBulkAll r
def uptoBulkEntries {H : Type} : List (Lit × DataW H) → Nat
  | [] => 0
  | x :: r => uptoBulkEntry x + uptoBulkEntries r
def uptoBulkEntry {H : Type} : Lit × DataW H → Nat
  | (.string bytes, d) => bytes.length + uptoBulk d + 1
  | (_, d) => uptoBulk d + 1
 end
def uptoSmall : (H : Type) → List (DataW H) → Bool := fun _ ds => decide (uptoBulkAll ds ≤ 1048576)
def OpenSpec.upto (s : _root_.Go.ChangeSpec) : _root_.Go.OpenSpec := { _root_.Go.OpenSpec.ofChange s with cond := some uptoSmall }

/-- 'versionmaplaw22.VersionsReleaseAll', WHERE WHAT IT READS IS OF BULK AT MOST 1048576: true; the input reads as it did. -/
def versionsReleaseAllUptoRow : OpenClaim := { program := "ytbeacjcmdijdmaagreat", sum := "239ed168d89692bbca63b39963bc9002c9f7f1c177e376e51deafbc34a752130", func := "versionmap/versionmaplaw22.VersionsReleaseAll", spec := "versionsReleaseAll", unfollowed := true, recurses := true, apart := false, narrowed := true }
def VersionsReleaseAllUptoSaid : Prop := versionsReleaseAllUptoRow.holds Tryz.pinned (OpenSpec.upto versionsReleaseAllSpec)

/-- 'versionmaplaw22.VersionsBases', WHERE WHAT IT READS IS OF BULK AT MOST 1048576: true; the input reads as it did. -/
def versionsBasesUptoRow : OpenClaim := { program := "ytbeacjcmdijdmaagreat", sum := "239ed168d89692bbca63b39963bc9002c9f7f1c177e376e51deafbc34a752130", func := "versionmap/versionmaplaw22.VersionsBases", spec := "versionsBases", unfollowed := true, recurses := true, apart := false, narrowed := true }
def VersionsBasesUptoSaid : Prop := versionsBasesUptoRow.holds Tryz.pinned (OpenSpec.upto versionsBasesSpec)

/-- 'versionmaplaw22.VersionsAgree', WHERE WHAT IT READS IS OF BULK AT MOST 1048576: true; the input reads as it did. -/
def versionsAgreeUptoRow : OpenClaim := { program := "ytbeacjcmdijdmaagreat", sum := "239ed168d89692bbca63b39963bc9002c9f7f1c177e376e51deafbc34a752130", func := "versionmap/versionmaplaw22.VersionsAgree", spec := "versionsAgree", unfollowed := true, recurses := true, apart := false, narrowed := true }
def VersionsAgreeUptoSaid : Prop := versionsAgreeUptoRow.holds Tryz.pinned (OpenSpec.upto versionsAgreeSpec)

/-- 'versionmaplaw26.TxnSerializes', WHERE WHAT IT READS IS OF BULK AT MOST 1048576: true; the input reads as it did. -/
def txnSerializesUptoRow : OpenClaim := { program := "ytbeacjcmdijdmaagreat", sum := "239ed168d89692bbca63b39963bc9002c9f7f1c177e376e51deafbc34a752130", func := "versionmap/versionmaplaw26.TxnSerializes", spec := "txnSerializes", unfollowed := true, recurses := true, apart := false, narrowed := true }
def TxnSerializesUptoSaid : Prop := txnSerializesUptoRow.holds Tryz.pinned (OpenSpec.upto txnSerializesSpec)

/-- 'versionmaplaw26.TxnAgrees', WHERE WHAT IT READS IS OF BULK AT MOST 1048576: true; the input reads as it did. -/
def txnAgreesUptoRow : OpenClaim := { program := "ytbeacjcmdijdmaagreat", sum := "239ed168d89692bbca63b39963bc9002c9f7f1c177e376e51deafbc34a752130", func := "versionmap/versionmaplaw26.TxnAgrees", spec := "txnAgrees", unfollowed := true, recurses := true, apart := false, narrowed := true }
def TxnAgreesUptoSaid : Prop := txnAgreesUptoRow.holds Tryz.pinned (OpenSpec.upto txnAgreesSpec)

/-- 'versionmaplaw26.TxnCommits', WHERE WHAT IT READS IS OF BULK AT MOST 1048576: true; the input reads as it did. -/
def txnCommitsUptoRow : OpenClaim := { program := "ytbeacjcmdijdmaagreat", sum := "239ed168d89692bbca63b39963bc9002c9f7f1c177e376e51deafbc34a752130", func := "versionmap/versionmaplaw26.TxnCommits", spec := "txnCommits", unfollowed := true, recurses := true, apart := false, narrowed := true }
def TxnCommitsUptoSaid : Prop := txnCommitsUptoRow.holds Tryz.pinned (OpenSpec.upto txnCommitsSpec)

end Rows
end Go.Proofs.YtbeacjcmdijdmaaGreat
