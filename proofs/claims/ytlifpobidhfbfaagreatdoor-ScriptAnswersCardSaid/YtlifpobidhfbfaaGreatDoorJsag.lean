/-
  Closed facts of the row of ScriptAnswers, one by one.
  Conditions: none.
-/
import Derived.Test.YtlifpobidhfbfaaGreatDoorRows
import Derived.JoinedOf
import Derived.SevenTiedAt
namespace Go.Proofs.YtlifpobidhfbfaaGreatDoor
open Go
set_option maxRecDepth 100000
theorem sans_goes : false = Rows.scriptAnswersRow.goesBy Tryz.prog := by kernel_rfl
end Go.Proofs.YtlifpobidhfbfaaGreatDoor
