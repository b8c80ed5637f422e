/-
  NARROWER THAN 'FOR EVERY INPUT', by the rows' own cells (each row's printed sentence says how): NamesAreValid: laid · NamesLog: laid · NamesAgree: laid · NamesCompareAndSet: laid · NamesLimit: laid.
  DERIVED. THE GIVEN ROWS OF THIS SEAT. 5 by the template 'for every input the law returns true; each argument reads behind the call as it read before'; 0 by the template 'total and deterministic' (their statements: YtenkmjbghbegfaaDoorTotals.lean).
  GIVEN WITH THE SEED: the statements are not yours to turn. If you find one false, say at which input.
  Laid BY PROGRAM, IN A SANDBOX (cutbox-rows.mjs): the forced cells as the released guide's own fill.sh prints them over the translation 9f005a9e28e57745… (all of the seat's roots in one cut). By AI agents, Wed Nov 11 2026. No macro, syntax, notation, axiom, sorry.
-/
import Derived.Test.YtenkmjbghbegfaaDoorChecked
import GoSem.PinnedTables
import GoSem.Claim
import GoSem.ClaimJoined
import GoSem.ClaimMapViews
import Derived.JoinedTies
import Derived.KernelRfl
namespace Go.Proofs.YtenkmjbghbegfaaDoor
/- THE CELL 'sum', in the pinned program and in every row, IS THE sha256 OF THE DUMP (.gsa) THAT YtenkmjbghbegfaaDoorProg.lean LOADS. Nothing in Lean hashes anything: it is a label: what it is worth is what the hold of that sum in a sandbox is worth. -/
noncomputable def Tryd.pinned : Pinned := { name := "ytenkmjbghbegfaadoor", sum := "9f005a9e28e577454b6cf340561b8d9b112c96836345863a6e809414a2b1b4f6", checked := Tryd.checked }
namespace Rows
def none {H : Type} : Left H := { results := [], args := [] }

/- WHAT THE LISTED PACKAGE-LEVEL VARIABLES READ AS WHEN THE CALL BEGINS. Each datum BY PROGRAM (the guide's laid-datum.mjs) off the statement by which the dump's own 'gosem.cut.vars' lays the variable. In a bare row this is a premise. The card (YtenkmjbghbegfaaDoorCards.lean) ties it to the program's text. -/
def laid_unicode_utf8_acceptRanges {H : Type} : DataW H := .agg [.agg [.lit (.int .u8 128), .lit (.int .u8 191)], .agg [.lit (.int .u8 160), .lit (.int .u8 191)], .agg [.lit (.int .u8 128), .lit (.int .u8 159)], .agg [.lit (.int .u8 144), .lit (.int .u8 191)], .agg [.lit (.int .u8 128), .lit (.int .u8 143)], .agg [.lit (.int .u8 0), .lit (.int .u8 0)], .agg [.lit (.int .u8 0), .lit (.int .u8 0)], .agg [.lit (.int .u8 0), .lit (.int .u8 0)], .agg [.lit (.int .u8 0), .lit (.int .u8 0)], .agg [.lit (.int .u8 0), .lit (.int .u8 0)], .agg [.lit (.int .u8 0), .lit (.int .u8 0)], .agg [.lit (.int .u8 0), .lit (.int .u8 0)], .agg [.lit (.int .u8 0), .lit (.int .u8 0)], .agg [.lit (.int .u8 0), .lit (.int .u8 0)], .agg [.lit (.int .u8 0), .lit (.int .u8 0)], .agg [.lit (.int .u8 0), .lit (.int .u8 0)]]
/-- One of Go's own tables, pinned by name: the form's constant. -/
def laid_unicode_utf8_first : DataW Unit := Go.Pinned.utf8First

/-- 'versionmaplaw23.NamesAreValid': WHATEVER THE INPUT: true; the input reads as it did. -/
def namesAreValidSpec : ChangeSpec := { name := "namesAreValid", fn := fun _ => fun
  | [d1, d2] => { results := [.lit (.bool true)], args := [d1, d2] }
  | _ => none }
def namesAreValidRow : OpenClaim := { program := "ytenkmjbghbegfaadoor", sum := "9f005a9e28e577454b6cf340561b8d9b112c96836345863a6e809414a2b1b4f6", func := "versionmap/versionmaplaw23.NamesAreValid", spec := "namesAreValid", inPlace := ["internal/bytealg.CountString", "internal/bytealg.IndexByteString", "internal/bytealg.IndexString"], named := ["unicode/utf8.first", "unicode/utf8.acceptRanges", "internal/bytealg.MaxLen"], apart := false, laid := [("unicode/utf8.acceptRanges", laid_unicode_utf8_acceptRanges), ("unicode/utf8.first", laid_unicode_utf8_first)] }
def NamesAreValidSaid : Prop := namesAreValidRow.holds Tryd.pinned (OpenSpec.ofChange namesAreValidSpec)

/-- ITS FALSE NEIGHBOUR: 'it returns false'. Refute it at one input. -/
def namesAreValidWrong : ChangeSpec := { name := "namesAreValid", fn := fun _ => fun
  | [d1, d2] => { results := [.lit (.bool false)], args := [d1, d2] }
  | _ => none }
def NamesAreValidWrongFalsely : Prop := namesAreValidRow.holds Tryd.pinned (OpenSpec.ofChange namesAreValidWrong)

/-- 'versionmaplaw23.NamesLog': WHATEVER THE INPUT: true; the input reads as it did. -/
def namesLogSpec : ChangeSpec := { name := "namesLog", fn := fun _ => fun
  | [d] => { results := [.lit (.bool true)], args := [d] }
  | _ => none }
def namesLogRow : OpenClaim := { program := "ytenkmjbghbegfaadoor", sum := "9f005a9e28e577454b6cf340561b8d9b112c96836345863a6e809414a2b1b4f6", func := "versionmap/versionmaplaw23.NamesLog", spec := "namesLog", inPlace := ["internal/bytealg.CountString", "internal/bytealg.IndexByteString", "internal/bytealg.IndexString"], named := ["unicode/utf8.first", "unicode/utf8.acceptRanges", "internal/bytealg.MaxLen"], apart := false, laid := [("unicode/utf8.acceptRanges", laid_unicode_utf8_acceptRanges), ("unicode/utf8.first", laid_unicode_utf8_first)] }
def NamesLogSaid : Prop := namesLogRow.holds Tryd.pinned (OpenSpec.ofChange namesLogSpec)

/-- ITS FALSE NEIGHBOUR: 'it returns false'. Refute it at one input. -/
def namesLogWrong : ChangeSpec := { name := "namesLog", fn := fun _ => fun
  | [d] => { results := [.lit (.bool false)], args := [d] }
  | _ => none }
def NamesLogWrongFalsely : Prop := namesLogRow.holds Tryd.pinned (OpenSpec.ofChange namesLogWrong)

/-- 'versionmaplaw23.NamesAgree': WHATEVER THE INPUT: true; the input reads as it did. -/
def namesAgreeSpec : ChangeSpec := { name := "namesAgree", fn := fun _ => fun
  | [d1, d2] => { results := [.lit (.bool true)], args := [d1, d2] }
  | _ => none }
def namesAgreeRow : OpenClaim := { program := "ytenkmjbghbegfaadoor", sum := "9f005a9e28e577454b6cf340561b8d9b112c96836345863a6e809414a2b1b4f6", func := "versionmap/versionmaplaw23.NamesAgree", spec := "namesAgree", inPlace := ["internal/bytealg.CountString", "internal/bytealg.IndexByteString", "internal/bytealg.IndexString"], unfollowed := true, recurses := true, named := ["unicode/utf8.first", "unicode/utf8.acceptRanges", "internal/bytealg.MaxLen"], apart := false, laid := [("unicode/utf8.acceptRanges", laid_unicode_utf8_acceptRanges), ("unicode/utf8.first", laid_unicode_utf8_first)] }
def NamesAgreeSaid : Prop := namesAgreeRow.holds Tryd.pinned (OpenSpec.ofChange namesAgreeSpec)

/-- ITS FALSE NEIGHBOUR: 'it returns false'. Refute it at one input. -/
def namesAgreeWrong : ChangeSpec := { name := "namesAgree", fn := fun _ => fun
  | [d1, d2] => { results := [.lit (.bool false)], args := [d1, d2] }
  | _ => none }
def NamesAgreeWrongFalsely : Prop := namesAgreeRow.holds Tryd.pinned (OpenSpec.ofChange namesAgreeWrong)

/-- 'versionmaplaw23.NamesCompareAndSet': WHATEVER THE INPUT: true; the input reads as it did. -/
def namesCompareAndSetSpec : ChangeSpec := { name := "namesCompareAndSet", fn := fun _ => fun
  | [d1, d2, d3, d4] => { results := [.lit (.bool true)], args := [d1, d2, d3, d4] }
  | _ => none }
def namesCompareAndSetRow : OpenClaim := { program := "ytenkmjbghbegfaadoor", sum := "9f005a9e28e577454b6cf340561b8d9b112c96836345863a6e809414a2b1b4f6", func := "versionmap/versionmaplaw23.NamesCompareAndSet", spec := "namesCompareAndSet", inPlace := ["internal/bytealg.CountString", "internal/bytealg.IndexByteString", "internal/bytealg.IndexString"], unfollowed := true, recurses := true, named := ["unicode/utf8.first", "unicode/utf8.acceptRanges", "internal/bytealg.MaxLen"], apart := false, laid := [("unicode/utf8.acceptRanges", laid_unicode_utf8_acceptRanges), ("unicode/utf8.first", laid_unicode_utf8_first)] }
def NamesCompareAndSetSaid : Prop := namesCompareAndSetRow.holds Tryd.pinned (OpenSpec.ofChange namesCompareAndSetSpec)

/-- ITS FALSE NEIGHBOUR: 'it returns false'. Refute it at one input. -/
def namesCompareAndSetWrong : ChangeSpec := { name := "namesCompareAndSet", fn := fun _ => fun
  | [d1, d2, d3, d4] => { results := [.lit (.bool false)], args := [d1, d2, d3, d4] }
  | _ => none }
def NamesCompareAndSetWrongFalsely : Prop := namesCompareAndSetRow.holds Tryd.pinned (OpenSpec.ofChange namesCompareAndSetWrong)

/-- 'versionmaplaw23.NamesLimit': WHATEVER THE INPUT: true; the input reads as it did. -/
def namesLimitSpec : ChangeSpec := { name := "namesLimit", fn := fun _ => fun
  | [d1, d2] => { results := [.lit (.bool true)], args := [d1, d2] }
  | _ => none }
def namesLimitRow : OpenClaim := { program := "ytenkmjbghbegfaadoor", sum := "9f005a9e28e577454b6cf340561b8d9b112c96836345863a6e809414a2b1b4f6", func := "versionmap/versionmaplaw23.NamesLimit", spec := "namesLimit", inPlace := ["internal/bytealg.CountString", "internal/bytealg.IndexByteString", "internal/bytealg.IndexString"], unfollowed := true, recurses := true, named := ["unicode/utf8.first", "unicode/utf8.acceptRanges", "internal/bytealg.MaxLen"], apart := false, laid := [("unicode/utf8.acceptRanges", laid_unicode_utf8_acceptRanges), ("unicode/utf8.first", laid_unicode_utf8_first)] }
def NamesLimitSaid : Prop := namesLimitRow.holds Tryd.pinned (OpenSpec.ofChange namesLimitSpec)

/-- ITS FALSE NEIGHBOUR: 'it returns false'. Refute it at one input. -/
def namesLimitWrong : ChangeSpec := { name := "namesLimit", fn := fun _ => fun
  | [d1, d2] => { results := [.lit (.bool false)], args := [d1, d2] }
  | _ => none }
def NamesLimitWrongFalsely : Prop := namesLimitRow.holds Tryd.pinned (OpenSpec.ofChange namesLimitWrong)

/- THE SECOND FORM. 'bulk': how many values and letters a reading holds, each counted each time it is reached (what is shared counts as often as it is met; a slice's spare places count too). A statement '..UptoSaid' is the law's where the arguments, and the package variables that the reading takes, are together of bulk at most 1048576: NARROWER than '..Said'. Prove '..Said' where nothing that the law and all that it calls make is longer than what came in: it says more and counts as full. Else prove '..UptoSaid'. A law counts once. -/
mutual
def uptoBulk {H : Type} : DataW H → Nat
  | .lit (.string bytes) => bytes.length + 1
  | .lit _ => 1
  | .nil => 1
  | .ptr d => uptoBulk d + 1
  | .slice elems spare => uptoBulkAll elems + uptoBulkAll spare + 1
  | .agg parts => uptoBulkAll parts + 1
  | .iface _ d => uptoBulk d + 1
  | .map entries => uptoBulkEntries entries + 1
  | .held _ => 1
def uptoBulkAll {H : Type} : List (DataW H) → Nat
  | [] => 0
  | d :: r => uptoBulk d + uptoBulkAll r
def uptoBulkEntries {H : Type} : List (Lit × DataW H) → Nat
  | [] => 0
  | x :: r => uptoBulkEntry x + uptoBulkEntries r
def uptoBulkEntry {H : Type} : Lit × DataW H → Nat
  | (.string bytes, d) => bytes.length + uptoBulk d + 1
  | (_, d) => uptoBulk d + 1
 end
def uptoSmall : (H : Type) → List (DataW H) → Bool := fun _ ds => decide (uptoBulkAll ds ≤ 1048576)
def OpenSpec.upto (s : _root_.Go.ChangeSpec) : _root_.Go.OpenSpec := { _root_.Go.OpenSpec.ofChange s with cond := some uptoSmall }

/-- 'versionmaplaw23.NamesAreValid', WHERE WHAT IT READS IS OF BULK AT MOST 1048576: true; the input reads as it did. -/
def namesAreValidUptoRow : OpenClaim := { program := "ytenkmjbghbegfaadoor", sum := "9f005a9e28e577454b6cf340561b8d9b112c96836345863a6e809414a2b1b4f6", func := "versionmap/versionmaplaw23.NamesAreValid", spec := "namesAreValid", inPlace := ["internal/bytealg.CountString", "internal/bytealg.IndexByteString", "internal/bytealg.IndexString"], named := ["unicode/utf8.first", "unicode/utf8.acceptRanges", "internal/bytealg.MaxLen"], apart := false, laid := [("unicode/utf8.acceptRanges", laid_unicode_utf8_acceptRanges), ("unicode/utf8.first", laid_unicode_utf8_first)], narrowed := true }
def NamesAreValidUptoSaid : Prop := namesAreValidUptoRow.holds Tryd.pinned (OpenSpec.upto namesAreValidSpec)

/-- 'versionmaplaw23.NamesLog', WHERE WHAT IT READS IS OF BULK AT MOST 1048576: true; the input reads as it did. -/
def namesLogUptoRow : OpenClaim := { program := "ytenkmjbghbegfaadoor", sum := "9f005a9e28e577454b6cf340561b8d9b112c96836345863a6e809414a2b1b4f6", func := "versionmap/versionmaplaw23.NamesLog", spec := "namesLog", inPlace := ["internal/bytealg.CountString", "internal/bytealg.IndexByteString", "internal/bytealg.IndexString"], named := ["unicode/utf8.first", "unicode/utf8.acceptRanges", "internal/bytealg.MaxLen"], apart := false, laid := [("unicode/utf8.acceptRanges", laid_unicode_utf8_acceptRanges), ("unicode/utf8.first", laid_unicode_utf8_first)], narrowed := true }
def NamesLogUptoSaid : Prop := namesLogUptoRow.holds Tryd.pinned (OpenSpec.upto namesLogSpec)

/-- 'versionmaplaw23.NamesAgree', WHERE WHAT IT READS IS OF BULK AT MOST 1048576: true; the input reads as it did. -/
def namesAgreeUptoRow : OpenClaim := { program := "ytenkmjbghbegfaadoor", sum := "9f005a9e28e577454b6cf340561b8d9b112c96836345863a6e809414a2b1b4f6", func := "versionmap/versionmaplaw23.NamesAgree", spec := "namesAgree", inPlace := ["internal/bytealg.CountString", "internal/bytealg.IndexByteString", "internal/bytealg.IndexString"], unfollowed := true, recurses := true, named := ["unicode/utf8.first", "unicode/utf8.acceptRanges", "internal/bytealg.MaxLen"], apart := false, laid := [("unicode/utf8.acceptRanges", laid_unicode_utf8_acceptRanges), ("unicode/utf8.first", laid_unicode_utf8_first)], narrowed := true }
def NamesAgreeUptoSaid : Prop := namesAgreeUptoRow.holds Tryd.pinned (OpenSpec.upto namesAgreeSpec)

/-- 'versionmaplaw23.NamesCompareAndSet', WHERE WHAT IT READS IS OF BULK AT MOST 1048576: true; the input reads as it did. -/
def namesCompareAndSetUptoRow : OpenClaim := { program := "ytenkmjbghbegfaadoor", sum := "9f005a9e28e577454b6cf340561b8d9b112c96836345863a6e809414a2b1b4f6", func := "versionmap/versionmaplaw23.NamesCompareAndSet", spec := "namesCompareAndSet", inPlace := ["internal/bytealg.CountString", "internal/bytealg.IndexByteString", "internal/bytealg.IndexString"], unfollowed := true, recurses := true, named := ["unicode/utf8.first", "unicode/utf8.acceptRanges", "internal/bytealg.MaxLen"], apart := false, laid := [("unicode/utf8.acceptRanges", laid_unicode_utf8_acceptRanges), ("unicode/utf8.first", laid_unicode_utf8_first)], narrowed := true }
def NamesCompareAndSetUptoSaid : Prop := namesCompareAndSetUptoRow.holds Tryd.pinned (OpenSpec.upto namesCompareAndSetSpec)

/-- 'versionmaplaw23.NamesLimit', WHERE WHAT IT READS IS OF BULK AT MOST 1048576: true; the input reads as it did. -/
def namesLimitUptoRow : OpenClaim := { program := "ytenkmjbghbegfaadoor", sum := "9f005a9e28e577454b6cf340561b8d9b112c96836345863a6e809414a2b1b4f6", func := "versionmap/versionmaplaw23.NamesLimit", spec := "namesLimit", inPlace := ["internal/bytealg.CountString", "internal/bytealg.IndexByteString", "internal/bytealg.IndexString"], unfollowed := true, recurses := true, named := ["unicode/utf8.first", "unicode/utf8.acceptRanges", "internal/bytealg.MaxLen"], apart := false, laid := [("unicode/utf8.acceptRanges", laid_unicode_utf8_acceptRanges), ("unicode/utf8.first", laid_unicode_utf8_first)], narrowed := true }
def NamesLimitUptoSaid : Prop := namesLimitUptoRow.holds Tryd.pinned (OpenSpec.upto namesLimitSpec)

end Rows
end Go.Proofs.YtenkmjbghbegfaaDoor
