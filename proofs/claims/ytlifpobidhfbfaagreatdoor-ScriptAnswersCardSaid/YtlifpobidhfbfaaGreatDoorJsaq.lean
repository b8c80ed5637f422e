/-
  Closed facts of the row of ScriptAnswers, one by one.
  Conditions: none.
-/
import Derived.Test.YtlifpobidhfbfaaGreatDoorRows
import Derived.JoinedOf
import Derived.SevenTiedAt
namespace Go.Proofs.YtlifpobidhfbfaaGreatDoor
open Go
set_option maxRecDepth 100000
theorem sans_qwf : (Rows.scriptAnswersRow.wf (OpenSpec.ofChange Rows.scriptAnswersSpec)) = true := by kernel_rfl
theorem sans_qlay : (laidOutB Tryz.prog) = true := by kernel_rfl
theorem sans_qmaps : (mapsRowed Tryz.prog) = true := by kernel_rfl
theorem sans_qinp : ((Rows.scriptAnswersRow.inPlace == Tryz.prog.inPlace 3)) = true := by kernel_rfl
theorem sans_qunf : ((Rows.scriptAnswersRow.unfollowed == Tryz.prog.unfollowed 3)) = true := by kernel_rfl
theorem sans_qrec : ((Rows.scriptAnswersRow.recurses == Tryz.prog.recurses 3)) = true := by kernel_rfl
theorem sans_qnam : ((Rows.scriptAnswersRow.named == Tryz.prog.varsNamed 3)) = true := by kernel_rfl
theorem sans_qsth : (Tryz.prog.stopsHeard) = true := by kernel_rfl
theorem sans_qmay : (Tryz.prog.mayEnter) = true := by kernel_rfl
theorem sans_closed : joinedFacts Tryz.prog 3 Tryz.f3 Rows.scriptAnswersSpec Rows.scriptAnswersRow = true := by
  unfold joinedFacts
  rw [sans_qwf, sans_qlay, sans_qmaps, sans_qinp, sans_qunf, sans_qrec, sans_qnam, sans_qsth, sans_qmay]
  kernel_rfl
theorem sans_looks : false = Tryz.prog.looks [] := by kernel_rfl
end Go.Proofs.YtlifpobidhfbfaaGreatDoor
