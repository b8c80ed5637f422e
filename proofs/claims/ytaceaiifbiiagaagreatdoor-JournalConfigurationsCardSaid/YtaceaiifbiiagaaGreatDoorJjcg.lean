/-
  Closed facts of the row of JournalConfigurations, one by one.
  Conditions: none.
-/
import Derived.Test.YtaceaiifbiiagaaGreatDoorRows
import Derived.JoinedOf
import Derived.SevenTiedAt
namespace Go.Proofs.YtaceaiifbiiagaaGreatDoor
open Go
set_option maxRecDepth 100000
theorem jcf_goes : false = Rows.journalConfigurationsRow.goesBy Tryz.prog := by kernel_rfl
end Go.Proofs.YtaceaiifbiiagaaGreatDoor
