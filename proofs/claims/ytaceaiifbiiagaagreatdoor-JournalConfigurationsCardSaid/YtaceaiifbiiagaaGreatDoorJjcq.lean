/-
  Closed facts of the row of JournalConfigurations, one by one.
  Conditions: none.
-/
import Derived.Test.YtaceaiifbiiagaaGreatDoorRows
import Derived.JoinedOf
import Derived.SevenTiedAt
namespace Go.Proofs.YtaceaiifbiiagaaGreatDoor
open Go
set_option maxRecDepth 100000
theorem jcf_qwf : (Rows.journalConfigurationsRow.wf (OpenSpec.ofChange Rows.journalConfigurationsSpec)) = true := by kernel_rfl
theorem jcf_qlay : (laidOutB Tryz.prog) = true := by kernel_rfl
theorem jcf_qmaps : (mapsRowed Tryz.prog) = true := by kernel_rfl
theorem jcf_qinp : ((Rows.journalConfigurationsRow.inPlace == Tryz.prog.inPlace 3)) = true := by kernel_rfl
theorem jcf_qunf : ((Rows.journalConfigurationsRow.unfollowed == Tryz.prog.unfollowed 3)) = true := by kernel_rfl
theorem jcf_qrec : ((Rows.journalConfigurationsRow.recurses == Tryz.prog.recurses 3)) = true := by kernel_rfl
theorem jcf_qnam : ((Rows.journalConfigurationsRow.named == Tryz.prog.varsNamed 3)) = true := by kernel_rfl
theorem jcf_qsth : (Tryz.prog.stopsHeard) = true := by kernel_rfl
theorem jcf_qmay : (Tryz.prog.mayEnter) = true := by kernel_rfl
theorem jcf_closed : joinedFacts Tryz.prog 3 Tryz.f3 Rows.journalConfigurationsSpec Rows.journalConfigurationsRow = true := by
  unfold joinedFacts
  rw [jcf_qwf, jcf_qlay, jcf_qmaps, jcf_qinp, jcf_qunf, jcf_qrec, jcf_qnam, jcf_qsth, jcf_qmay]
  kernel_rfl
theorem jcf_looks : false = Tryz.prog.looks [] := by kernel_rfl
end Go.Proofs.YtaceaiifbiiagaaGreatDoor
