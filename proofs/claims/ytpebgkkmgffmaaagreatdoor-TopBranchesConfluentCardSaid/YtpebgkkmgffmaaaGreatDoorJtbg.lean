/-
  Closed facts of the row of TopBranchesConfluent, one by one.
  Conditions: none.
-/
import Derived.Test.YtpebgkkmgffmaaaGreatDoorRows
import Derived.JoinedOf
import Derived.SevenTiedAt
namespace Go.Proofs.YtpebgkkmgffmaaaGreatDoor
open Go
set_option maxRecDepth 100000
theorem goes_any {P : Program} (h : P.funcs.toList.all (fun fn => !fn.goes) = true) (f : FuncId) : P.goes f = false := by
  have h1 : ∀ fn, fn ∈ P.funcs → fn.goes = false := fun fn hf => by
    have := List.all_eq_true.1 h fn (by simpa using hf)
    simpa using this
  unfold Program.goes
  rw [Bool.or_eq_false_iff, Bool.and_eq_false_iff]
  refine ⟨?_, .inr ?_⟩
  · rw [List.any_eq_false]
    intro g _
    cases hg : P.funcs[g]? with
    | none => simp
    | some fn => simp [h1 fn (Array.mem_of_getElem? hg)]
  · rw [Array.any_eq_false]
    intro i hi
    simp [h1 _ (Array.getElem_mem hi)]
theorem goes_by {P : Program} (h : P.funcs.toList.all (fun fn => !fn.goes) = true) (c : OpenClaim) : false = c.goesBy P := by
  have h2 : ∀ f, P.goes f = false := goes_any h
  unfold OpenClaim.goesBy Program.goesAt Program.goesFrom
  have h3 : (P.funcNamed c.func).any P.goes = false := by cases P.funcNamed c.func <;> simp [h2]
  rw [h3, Bool.false_or]
  cases c.start <;> simp [h2]
theorem topbr_all : Tryz.prog.funcs.toList.all (fun fn => !fn.goes) = true := by kernel_rfl
theorem topbr_goes : false = Rows.topBranchesConfluentRow.goesBy Tryz.prog := goes_by topbr_all _
end Go.Proofs.YtpebgkkmgffmaaaGreatDoor
