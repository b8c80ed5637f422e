/-
  Closed facts of the row of ScriptLimit, one by one.
  Conditions: none.
-/
import Derived.Test.YthcmigbamkohpaaGreatDoorRows
import Derived.JoinedOf
import Derived.SevenTiedAt
namespace Go.Proofs.YthcmigbamkohpaaGreatDoor
open Go
set_option maxRecDepth 100000
theorem slim_qwf : (Rows.scriptLimitRow.wf (OpenSpec.ofChange Rows.scriptLimitSpec)) = true := by kernel_rfl
theorem slim_qlay : (laidOutB Tryz.prog) = true := by kernel_rfl
theorem slim_qmaps : (mapsRowed Tryz.prog) = true := by kernel_rfl
theorem slim_qinp : ((Rows.scriptLimitRow.inPlace == Tryz.prog.inPlace 3)) = true := by kernel_rfl
theorem slim_qunf : ((Rows.scriptLimitRow.unfollowed == Tryz.prog.unfollowed 3)) = true := by kernel_rfl
theorem slim_qrec : ((Rows.scriptLimitRow.recurses == Tryz.prog.recurses 3)) = true := by kernel_rfl
theorem slim_qnam : ((Rows.scriptLimitRow.named == Tryz.prog.varsNamed 3)) = true := by kernel_rfl
theorem slim_qsth : (Tryz.prog.stopsHeard) = true := by kernel_rfl
theorem slim_qmay : (Tryz.prog.mayEnter) = true := by kernel_rfl
theorem slim_closed : joinedFacts Tryz.prog 3 Tryz.f3 Rows.scriptLimitSpec Rows.scriptLimitRow = true := by
  unfold joinedFacts
  rw [slim_qwf, slim_qlay, slim_qmaps, slim_qinp, slim_qunf, slim_qrec, slim_qnam, slim_qsth, slim_qmay]
  kernel_rfl
theorem slim_looks : false = Tryz.prog.looks [] := by kernel_rfl
end Go.Proofs.YthcmigbamkohpaaGreatDoor
