/-
  Closed facts of the row of TopBranchesConfluent, one by one.
  Conditions: none.
-/
import Derived.Test.YtpebgkkmgffmaaaGreatDoorRows
import Derived.JoinedOf
import Derived.SevenTiedAt
namespace Go.Proofs.YtpebgkkmgffmaaaGreatDoor
open Go
set_option maxRecDepth 100000
theorem topbr_qwf : (Rows.topBranchesConfluentRow.wf (OpenSpec.ofChange Rows.topBranchesConfluentSpec)) = true := by kernel_rfl
theorem topbr_qlay : (laidOutB Tryz.prog) = true := by kernel_rfl
theorem topbr_qmaps : (mapsRowed Tryz.prog) = true := by kernel_rfl
theorem topbr_qinp : ((Rows.topBranchesConfluentRow.inPlace == Tryz.prog.inPlace 3)) = true := by kernel_rfl
theorem topbr_qunf : ((Rows.topBranchesConfluentRow.unfollowed == Tryz.prog.unfollowed 3)) = true := by kernel_rfl
theorem topbr_qrec : ((Rows.topBranchesConfluentRow.recurses == Tryz.prog.recurses 3)) = true := by kernel_rfl
theorem topbr_qnam : ((Rows.topBranchesConfluentRow.named == Tryz.prog.varsNamed 3)) = true := by kernel_rfl
theorem topbr_qsth : (Tryz.prog.stopsHeard) = true := by kernel_rfl
theorem topbr_qmay : (Tryz.prog.mayEnter) = true := by kernel_rfl
theorem topbr_closed : joinedFacts Tryz.prog 3 Tryz.f3 Rows.topBranchesConfluentSpec Rows.topBranchesConfluentRow = true := by
  unfold joinedFacts
  rw [topbr_qwf, topbr_qlay, topbr_qmaps, topbr_qinp, topbr_qunf, topbr_qrec, topbr_qnam, topbr_qsth, topbr_qmay]
  kernel_rfl
theorem topbr_looks : false = Tryz.prog.looks [] := by kernel_rfl
end Go.Proofs.YtpebgkkmgffmaaaGreatDoor
