/-
  Closed facts of the row of TxnSerializes, one by one.
  Conditions: none.
-/
import Derived.Test.YtbeacjcmdijdmaaGreatRows
import Derived.JoinedOf
import Derived.SevenTiedAt
namespace Go.Proofs.YtbeacjcmdijdmaaGreat
open Go
set_option maxRecDepth 100000
theorem tser_qwf : (Rows.txnSerializesRow.wf (OpenSpec.ofChange Rows.txnSerializesSpec)) = true := by kernel_rfl
theorem tser_qlay : (laidOutB Tryz.prog) = true := by kernel_rfl
theorem tser_qmaps : (mapsRowed Tryz.prog) = true := by kernel_rfl
theorem tser_qinp : ((Rows.txnSerializesRow.inPlace == Tryz.prog.inPlace 6)) = true := by kernel_rfl
theorem tser_qunf : ((Rows.txnSerializesRow.unfollowed == Tryz.prog.unfollowed 6)) = true := by kernel_rfl
theorem tser_qrec : ((Rows.txnSerializesRow.recurses == Tryz.prog.recurses 6)) = true := by kernel_rfl
theorem tser_qnam : ((Rows.txnSerializesRow.named == Tryz.prog.varsNamed 6)) = true := by kernel_rfl
theorem tser_qsth : (Tryz.prog.stopsHeard) = true := by kernel_rfl
theorem tser_qmay : (Tryz.prog.mayEnter) = true := by kernel_rfl
theorem tser_closed : joinedFacts Tryz.prog 6 Tryz.f6 Rows.txnSerializesSpec Rows.txnSerializesRow = true := by
  unfold joinedFacts
  rw [tser_qwf, tser_qlay, tser_qmaps, tser_qinp, tser_qunf, tser_qrec, tser_qnam, tser_qsth, tser_qmay]
  kernel_rfl
end Go.Proofs.YtbeacjcmdijdmaaGreat
