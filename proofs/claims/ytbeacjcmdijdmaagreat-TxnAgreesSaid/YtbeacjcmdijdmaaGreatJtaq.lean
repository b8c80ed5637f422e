/-
  Closed facts of the row of TxnAgrees, one by one.
  Conditions: none.
-/
import Derived.Test.YtbeacjcmdijdmaaGreatRows
import Derived.JoinedOf
import Derived.SevenTiedAt
namespace Go.Proofs.YtbeacjcmdijdmaaGreat
open Go
set_option maxRecDepth 100000
theorem tagr_qwf : (Rows.txnAgreesRow.wf (OpenSpec.ofChange Rows.txnAgreesSpec)) = true := by kernel_rfl
theorem tagr_qlay : (laidOutB Tryz.prog) = true := by kernel_rfl
theorem tagr_qmaps : (mapsRowed Tryz.prog) = true := by kernel_rfl
theorem tagr_qinp : ((Rows.txnAgreesRow.inPlace == Tryz.prog.inPlace 7)) = true := by kernel_rfl
theorem tagr_qunf : ((Rows.txnAgreesRow.unfollowed == Tryz.prog.unfollowed 7)) = true := by kernel_rfl
theorem tagr_qrec : ((Rows.txnAgreesRow.recurses == Tryz.prog.recurses 7)) = true := by kernel_rfl
theorem tagr_qnam : ((Rows.txnAgreesRow.named == Tryz.prog.varsNamed 7)) = true := by kernel_rfl
theorem tagr_qsth : (Tryz.prog.stopsHeard) = true := by kernel_rfl
theorem tagr_qmay : (Tryz.prog.mayEnter) = true := by kernel_rfl
theorem tagr_closed : joinedFacts Tryz.prog 7 Tryz.f7 Rows.txnAgreesSpec Rows.txnAgreesRow = true := by
  unfold joinedFacts
  rw [tagr_qwf, tagr_qlay, tagr_qmaps, tagr_qinp, tagr_qunf, tagr_qrec, tagr_qnam, tagr_qsth, tagr_qmay]
  kernel_rfl
end Go.Proofs.YtbeacjcmdijdmaaGreat
