/-
  Closed facts of the row of TxnSpansAreMinimal, one by one.
  Conditions: none.
-/
import Derived.Test.YtlnlnebibgdjdaaGreatRows
import Derived.JoinedOf
import Derived.SevenTiedAt
namespace Go.Proofs.YtlnlnebibgdjdaaGreat
open Go
set_option maxRecDepth 100000
theorem tsp_qwf : (Rows.txnSpansAreMinimalRow.wf (OpenSpec.ofChange Rows.txnSpansAreMinimalSpec)) = true := by kernel_rfl
theorem tsp_qlay : (laidOutB Tryz.prog) = true := by kernel_rfl
theorem tsp_qmaps : (mapsRowed Tryz.prog) = true := by kernel_rfl
theorem tsp_qinp : ((Rows.txnSpansAreMinimalRow.inPlace == Tryz.prog.inPlace 8)) = true := by kernel_rfl
theorem tsp_qunf : ((Rows.txnSpansAreMinimalRow.unfollowed == Tryz.prog.unfollowed 8)) = true := by kernel_rfl
theorem tsp_qrec : ((Rows.txnSpansAreMinimalRow.recurses == Tryz.prog.recurses 8)) = true := by kernel_rfl
theorem tsp_qnam : ((Rows.txnSpansAreMinimalRow.named == Tryz.prog.varsNamed 8)) = true := by kernel_rfl
theorem tsp_qsth : (Tryz.prog.stopsHeard) = true := by kernel_rfl
theorem tsp_qmay : (Tryz.prog.mayEnter) = true := by kernel_rfl
theorem tsp_closed : joinedFacts Tryz.prog 8 Tryz.f8 Rows.txnSpansAreMinimalSpec Rows.txnSpansAreMinimalRow = true := by
  unfold joinedFacts
  rw [tsp_qwf, tsp_qlay, tsp_qmaps, tsp_qinp, tsp_qunf, tsp_qrec, tsp_qnam, tsp_qsth, tsp_qmay]
  kernel_rfl
end Go.Proofs.YtlnlnebibgdjdaaGreat
