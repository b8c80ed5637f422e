/-
  Plain model of an arena: counts and what is allocated.
  Conditions: none.
-/
import Derived.Test.YtlnlnebibgdjdaaSlb
namespace Go.V
open Go Go.RowKit

def AM.new (cap : Nat) : AM := ⟨SM.new cap, List.replicate (cap + 1) Nd.zero, List.replicate (cap + 1) 0⟩
def AM.cntOf (A : AM) (i : Int) : Int := (A.cnt[i.toNat]?).getD 0
def AM.inc (A : AM) (i : Int) : AM := ⟨A.s, A.nodes, A.cnt.set i.toNat (IntKind.i64.wrap (A.cntOf i + 1))⟩
def AM.dec (A : AM) (i : Int) : AM := ⟨A.s, A.nodes, A.cnt.set i.toNat (IntKind.i64.wrap (A.cntOf i - 1))⟩
/-- an arena is one -/
structure AWf (A : AM) : Prop where
  s : SOk A.s
  nl : A.nodes.length = A.s.used.length
  cl : A.cnt.length = A.s.used.length
theorem AM.new_wf {cap : Nat} (h : 1 ≤ cap ∧ cap ≤ 65536) : AWf (AM.new cap) := ⟨SM.new_ok h, by simp [AM.new, SM.new], by simp [AM.new, SM.new]⟩
theorem AWf.inc {A : AM} (h : AWf A) (i : Int) : AWf (A.inc i) := ⟨h.s, h.nl, by simpa [AM.inc] using h.cl⟩
def AM.retE (A : AM) (i : Int) : Int := if i = 0 ∨ A.s.ok i = true then 0 else 3
def AM.ret (A : AM) (i : Int) : AM := if i ≠ 0 ∧ A.s.ok i = true then A.inc i else A
theorem SM.new_free (cap : Nat) : (SM.new cap).free = cap := by
  simp [SM.free, SM.cap, SM.new]
end Go.V
