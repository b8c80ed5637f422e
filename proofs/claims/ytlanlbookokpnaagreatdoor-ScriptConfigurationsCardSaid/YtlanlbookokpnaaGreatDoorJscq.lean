/-
  Closed facts of the row of ScriptConfigurations, one by one.
  Conditions: none.
-/
import Derived.Test.YtlanlbookokpnaaGreatDoorRows
import Derived.JoinedOf
import Derived.SevenTiedAt
namespace Go.Proofs.YtlanlbookokpnaaGreatDoor
open Go
set_option maxRecDepth 100000
theorem sconf_qwf : (Rows.scriptConfigurationsRow.wf (OpenSpec.ofChange Rows.scriptConfigurationsSpec)) = true := by kernel_rfl
theorem sconf_qlay : (laidOutB Tryz.prog) = true := by kernel_rfl
theorem sconf_qmaps : (mapsRowed Tryz.prog) = true := by kernel_rfl
theorem sconf_qinp : ((Rows.scriptConfigurationsRow.inPlace == Tryz.prog.inPlace 3)) = true := by kernel_rfl
theorem sconf_qunf : ((Rows.scriptConfigurationsRow.unfollowed == Tryz.prog.unfollowed 3)) = true := by kernel_rfl
theorem sconf_qrec : ((Rows.scriptConfigurationsRow.recurses == Tryz.prog.recurses 3)) = true := by kernel_rfl
theorem sconf_qnam : ((Rows.scriptConfigurationsRow.named == Tryz.prog.varsNamed 3)) = true := by kernel_rfl
theorem sconf_qsth : (Tryz.prog.stopsHeard) = true := by kernel_rfl
theorem sconf_qmay : (Tryz.prog.mayEnter) = true := by kernel_rfl
theorem sconf_closed : joinedFacts Tryz.prog 3 Tryz.f3 Rows.scriptConfigurationsSpec Rows.scriptConfigurationsRow = true := by
  unfold joinedFacts
  rw [sconf_qwf, sconf_qlay, sconf_qmaps, sconf_qinp, sconf_qunf, sconf_qrec, sconf_qnam, sconf_qsth, sconf_qmay]
  kernel_rfl
theorem sconf_looks : false = Tryz.prog.looks [] := by kernel_rfl
end Go.Proofs.YtlanlbookokpnaaGreatDoor
