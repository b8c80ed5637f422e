/-
  Closed facts of the row of ScriptConfigurations, one by one.
  Conditions: none.
-/
import Derived.Test.YtlanlbookokpnaaGreatDoorRows
import Derived.JoinedOf
import Derived.SevenTiedAt
namespace Go.Proofs.YtlanlbookokpnaaGreatDoor
open Go
set_option maxRecDepth 100000
theorem sconf_goes : false = Rows.scriptConfigurationsRow.goesBy Tryz.prog := by kernel_rfl
end Go.Proofs.YtlanlbookokpnaaGreatDoor
