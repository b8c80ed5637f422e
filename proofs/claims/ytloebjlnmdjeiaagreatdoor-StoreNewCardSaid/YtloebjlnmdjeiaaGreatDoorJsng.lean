/-
  Closed facts of the row of StoreNew, one by one.
  Conditions: none.
-/
import Derived.Test.YtloebjlnmdjeiaaGreatDoorRows
import Derived.JoinedOf
import Derived.SevenTiedAt
namespace Go.Proofs.YtloebjlnmdjeiaaGreatDoor
open Go
set_option maxRecDepth 100000
theorem snew_goes : false = Rows.storeNewRow.goesBy Tryz.prog := by kernel_rfl
end Go.Proofs.YtloebjlnmdjeiaaGreatDoor
