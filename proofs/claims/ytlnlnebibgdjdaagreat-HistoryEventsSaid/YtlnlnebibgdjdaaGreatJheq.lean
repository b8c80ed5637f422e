/-
  Closed facts of the row of HistoryEvents, one by one.
  Conditions: none.
-/
import Derived.Test.YtlnlnebibgdjdaaGreatRows
import Derived.JoinedOf
import Derived.SevenTiedAt
namespace Go.Proofs.YtlnlnebibgdjdaaGreat
open Go
set_option maxRecDepth 100000
theorem hevs_qwf : (Rows.historyEventsRow.wf (OpenSpec.ofChange Rows.historyEventsSpec)) = true := by kernel_rfl
theorem hevs_qlay : (laidOutB Tryz.prog) = true := by kernel_rfl
theorem hevs_qmaps : (mapsRowed Tryz.prog) = true := by kernel_rfl
theorem hevs_qinp : ((Rows.historyEventsRow.inPlace == Tryz.prog.inPlace 6)) = true := by kernel_rfl
theorem hevs_qunf : ((Rows.historyEventsRow.unfollowed == Tryz.prog.unfollowed 6)) = true := by kernel_rfl
theorem hevs_qrec : ((Rows.historyEventsRow.recurses == Tryz.prog.recurses 6)) = true := by kernel_rfl
theorem hevs_qnam : ((Rows.historyEventsRow.named == Tryz.prog.varsNamed 6)) = true := by kernel_rfl
theorem hevs_qsth : (Tryz.prog.stopsHeard) = true := by kernel_rfl
theorem hevs_qmay : (Tryz.prog.mayEnter) = true := by kernel_rfl
theorem hevs_closed : joinedFacts Tryz.prog 6 Tryz.f6 Rows.historyEventsSpec Rows.historyEventsRow = true := by
  unfold joinedFacts
  rw [hevs_qwf, hevs_qlay, hevs_qmaps, hevs_qinp, hevs_qunf, hevs_qrec, hevs_qnam, hevs_qsth, hevs_qmay]
  kernel_rfl
end Go.Proofs.YtlnlnebibgdjdaaGreat
