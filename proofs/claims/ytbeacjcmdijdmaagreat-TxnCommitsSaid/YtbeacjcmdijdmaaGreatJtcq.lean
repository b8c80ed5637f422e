/-
  Closed facts of the row of TxnCommits, one by one.
  Conditions: none.
-/
import Derived.Test.YtbeacjcmdijdmaaGreatRows
import Derived.JoinedOf
import Derived.SevenTiedAt
namespace Go.Proofs.YtbeacjcmdijdmaaGreat
open Go
set_option maxRecDepth 100000
theorem tcm_qwf : (Rows.txnCommitsRow.wf (OpenSpec.ofChange Rows.txnCommitsSpec)) = true := by kernel_rfl
theorem tcm_qlay : (laidOutB Tryz.prog) = true := by kernel_rfl
theorem tcm_qmaps : (mapsRowed Tryz.prog) = true := by kernel_rfl
theorem tcm_qinp : ((Rows.txnCommitsRow.inPlace == Tryz.prog.inPlace 8)) = true := by kernel_rfl
theorem tcm_qunf : ((Rows.txnCommitsRow.unfollowed == Tryz.prog.unfollowed 8)) = true := by kernel_rfl
theorem tcm_qrec : ((Rows.txnCommitsRow.recurses == Tryz.prog.recurses 8)) = true := by kernel_rfl
theorem tcm_qnam : ((Rows.txnCommitsRow.named == Tryz.prog.varsNamed 8)) = true := by kernel_rfl
theorem tcm_qsth : (Tryz.prog.stopsHeard) = true := by kernel_rfl
theorem tcm_qmay : (Tryz.prog.mayEnter) = true := by kernel_rfl
theorem tcm_closed : joinedFacts Tryz.prog 8 Tryz.f8 Rows.txnCommitsSpec Rows.txnCommitsRow = true := by
  unfold joinedFacts
  rw [tcm_qwf, tcm_qlay, tcm_qmaps, tcm_qinp, tcm_qunf, tcm_qrec, tcm_qnam, tcm_qsth, tcm_qmay]
  kernel_rfl
end Go.Proofs.YtbeacjcmdijdmaaGreat
