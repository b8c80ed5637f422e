/-
  Closed facts of the row of StoreNew, one by one.
  Conditions: none.
-/
import Derived.Test.YtloebjlnmdjeiaaGreatDoorRows
import Derived.JoinedOf
import Derived.SevenTiedAt
namespace Go.Proofs.YtloebjlnmdjeiaaGreatDoor
open Go
set_option maxRecDepth 100000
theorem snew_qwf : (Rows.storeNewRow.wf (OpenSpec.ofChange Rows.storeNewSpec)) = true := by kernel_rfl
theorem snew_qlay : (laidOutB Tryz.prog) = true := by kernel_rfl
theorem snew_qmaps : (mapsRowed Tryz.prog) = true := by kernel_rfl
theorem snew_qinp : ((Rows.storeNewRow.inPlace == Tryz.prog.inPlace 3)) = true := by kernel_rfl
theorem snew_qunf : ((Rows.storeNewRow.unfollowed == Tryz.prog.unfollowed 3)) = true := by kernel_rfl
theorem snew_qrec : ((Rows.storeNewRow.recurses == Tryz.prog.recurses 3)) = true := by kernel_rfl
theorem snew_qnam : ((Rows.storeNewRow.named == Tryz.prog.varsNamed 3)) = true := by kernel_rfl
theorem snew_qsth : (Tryz.prog.stopsHeard) = true := by kernel_rfl
theorem snew_qmay : (Tryz.prog.mayEnter) = true := by kernel_rfl
theorem snew_closed : joinedFacts Tryz.prog 3 Tryz.f3 Rows.storeNewSpec Rows.storeNewRow = true := by
  unfold joinedFacts
  rw [snew_qwf, snew_qlay, snew_qmaps, snew_qinp, snew_qunf, snew_qrec, snew_qnam, snew_qsth, snew_qmay]
  kernel_rfl
theorem snew_looks : false = Tryz.prog.looks [] := by kernel_rfl
end Go.Proofs.YtloebjlnmdjeiaaGreatDoor
