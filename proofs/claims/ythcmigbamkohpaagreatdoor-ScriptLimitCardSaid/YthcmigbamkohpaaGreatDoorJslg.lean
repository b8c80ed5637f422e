/-
  Closed facts of the row of ScriptLimit, one by one.
  Conditions: none.
-/
import Derived.Test.YthcmigbamkohpaaGreatDoorRows
import Derived.JoinedOf
import Derived.SevenTiedAt
namespace Go.Proofs.YthcmigbamkohpaaGreatDoor
open Go
set_option maxRecDepth 100000
theorem slim_goes : false = Rows.scriptLimitRow.goesBy Tryz.prog := by kernel_rfl
end Go.Proofs.YthcmigbamkohpaaGreatDoor
