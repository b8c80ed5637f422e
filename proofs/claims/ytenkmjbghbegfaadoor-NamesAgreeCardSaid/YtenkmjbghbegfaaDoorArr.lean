/-
  The engine: arrays as values, their elements of one cell. No program.
  Conditions: none; every fact is proved from the library's own definitions.
-/
import Derived.Test.YtenkmjbghbegfaaDoorEnx
namespace Go.V
open Go Go.RowKit

/-- values of type e are one cell -/
def oneB (P : Program) (e : TypeId) : Bool := (P.underlying e).isSome && !isAggB P e && (match P.info? e with | some i => i.size == 1 | none => false)
/-- t is an array of m elements of type e, each of one cell -/
structure ArrT (P : Program) (t : TypeId) (m : Nat) (e : TypeId) : Prop where
  und : P.underlying t = some (.array m e)
  elem : oneB P e = true
section
variable {P : Program} {T : Tab} [hT : TabOk P T] {n : Nat} {os l : List Oper} {K : Kt} {F : Fm} {w : World} {t e : TypeId} {m : Nat} {z : Array Value}
theorem ArrT.one (h : ArrT P t m e) : (P.underlying e).isSome = true ∧ isAggB P e = false ∧ ∃ i, P.info? e = some i ∧ i.size = 1 := by
  have h1 := h.elem
  simp only [oneB, Bool.and_eq_true, Bool.not_eq_true'] at h1
  obtain ⟨⟨h2, h3⟩, h4⟩ := h1
  refine ⟨h2, h3, ?_⟩
  cases hi : P.info? e with
  | none => rw [hi] at h4; cases h4
  | some i => rw [hi] at h4; exact ⟨i, rfl, by simpa using h4⟩
/-- [m]T{..} -/
theorem WL.buildA {o : Oper} {ps : List (Nat × Operand)} {cs : List Value} (hg : o.guard = none) (ho : o.op = .build t ps.toArray) (hA : ArrT P t m e) (hz : ZV P t z) (h : fillL (fun i => some (i, 1)) z.toList (evP F ps) = some cs)
    (hk : WL P n os l K (updo F o.dst (.agg cs.toArray)) w) : WL P n os (o :: l) K F w := by
  obtain ⟨i, zv, h1, h2, h3⟩ := hz
  obtain ⟨_, _, hi⟩ := hA.one
  refine WL.val hg (fun hok => ?_) hk
  have hev := evP_act (F := F) (ps := ps) hok (fun p hp => by
    simp only [ho, Op.operands]
    exact List.mem_map.2 ⟨p, by simpa using hp, rfl⟩)
  have hfill := fill_eq (fun i => some (i, 1)) (evP F ps) z.toList cs h
  simp only [Array.toArray_toList] at hfill
  have hzv : (zeroValue t).run P w = .ok zv w := by simp [zeroValue, typeInfo, h1, h2]
  simp only [execOp, ho, Instr.build, Sem.run_bind, hzv, Sem.run_pure, Result.andThen_ok, run_underlying hA.und, run_sizeOf w hi, h3, hev, Nat.mul_one, hfill]
/-- a[k] of an array -/
theorem WL.ixA {o : Oper} {x y : Operand} {kk : IntKind} {v : Int} {cs : Array Value} {u : Value} (hg : o.guard = none) (ho : o.op = .index t x y) (k : Nat) (hA : ArrT P t m e) (hx : ev F x = .agg cs) (hy : ev F y = .int kk v) (hv : v = k) (hm : k < m) (hu : cs[k]? = some u)
    (hk : WL P n os l K (updo F o.dst u) w) : WL P n os (o :: l) K F w := by
  subst hv
  obtain ⟨h1, h2, hi⟩ := hA.one
  refine WL.val hg (fun hok => ?_) hk
  have e1 := okX_at (F := F) hok (x := x) (by simp [ho, Op.operands])
  have e2 := okX_at (F := F) hok (x := y) (by simp [ho, Op.operands])
  have hb : (0 : Int) ≤ (k : Int) ∧ (k : Int) < (m : Int) := ⟨by omega, by omega⟩
  simp only [execOp, ho, e1, hx, e2, hy, Instr.index, asIntOf, Sem.run_bind, Sem.run_pure, Result.andThen_ok, run_underlying hA.und, if_pos hb, run_sizeOf w hi, part, run_isAgg w h1, h2, Bool.false_eq_true, if_false, Int.toNat_natCast, Nat.mul_one, hu]
end
end Go.V
