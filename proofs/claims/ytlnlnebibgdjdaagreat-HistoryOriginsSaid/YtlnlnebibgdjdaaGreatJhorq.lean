/-
  Closed facts of the row of HistoryOrigins, one by one.
  Conditions: none.
-/
import Derived.Test.YtlnlnebibgdjdaaGreatRows
import Derived.JoinedOf
import Derived.SevenTiedAt
namespace Go.Proofs.YtlnlnebibgdjdaaGreat
open Go
set_option maxRecDepth 100000
theorem hors_qwf : (Rows.historyOriginsRow.wf (OpenSpec.ofChange Rows.historyOriginsSpec)) = true := by kernel_rfl
theorem hors_qlay : (laidOutB Tryz.prog) = true := by kernel_rfl
theorem hors_qmaps : (mapsRowed Tryz.prog) = true := by kernel_rfl
theorem hors_qinp : ((Rows.historyOriginsRow.inPlace == Tryz.prog.inPlace 7)) = true := by kernel_rfl
theorem hors_qunf : ((Rows.historyOriginsRow.unfollowed == Tryz.prog.unfollowed 7)) = true := by kernel_rfl
theorem hors_qrec : ((Rows.historyOriginsRow.recurses == Tryz.prog.recurses 7)) = true := by kernel_rfl
theorem hors_qnam : ((Rows.historyOriginsRow.named == Tryz.prog.varsNamed 7)) = true := by kernel_rfl
theorem hors_qsth : (Tryz.prog.stopsHeard) = true := by kernel_rfl
theorem hors_qmay : (Tryz.prog.mayEnter) = true := by kernel_rfl
theorem hors_closed : joinedFacts Tryz.prog 7 Tryz.f7 Rows.historyOriginsSpec Rows.historyOriginsRow = true := by
  unfold joinedFacts
  rw [hors_qwf, hors_qlay, hors_qmaps, hors_qinp, hors_qunf, hors_qrec, hors_qnam, hors_qsth, hors_qmay]
  kernel_rfl
end Go.Proofs.YtlnlnebibgdjdaaGreat
