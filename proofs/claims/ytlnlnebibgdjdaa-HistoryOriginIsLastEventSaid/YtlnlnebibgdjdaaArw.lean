/-
  The engine: the address of an element of an array; the weights of the least trees.
  Conditions: none; every fact is proved from the library's own definitions.
-/
import Derived.Test.YtlnlnebibgdjdaaEgb
import Derived.Test.YtlnlnebibgdjdaaTra
namespace Go.V
open Go Go.RowKit

def sz1 (P : Program) (e : TypeId) : Bool := match P.info? e with
  | some i => i.size == 1
  | none => false
theorem sz1_ex {P : Program} {e : TypeId} (h : sz1 P e = true) : ∃ i, P.info? e = some i ∧ i.size = 1 := by
  unfold sz1 at h
  cases hi : P.info? e with
  | none => rw [hi] at h; cases h
  | some i => rw [hi] at h; exact ⟨i, rfl, by simpa using h⟩
/-- t is an array of m elements of type e, each of one cell -/
structure ArP (P : Program) (t : TypeId) (m : Nat) (e : TypeId) : Prop where
  und : P.underlying t = some (.array m e)
  one1 : sz1 P e = true
theorem ArP.one {P : Program} {t e : TypeId} {m : Nat} (h : ArP P t m e) : ∃ i, P.info? e = some i ∧ i.size = 1 := sz1_ex h.one1
section
variable {P : Program} {T : Tab} [hT : TabOk P T] {n : Nat} {os l : List Oper} {K : Kt} {F : Fm} {w : World} {t e : TypeId} {m : Nat}
theorem WL.ixP {o : Oper} {x y : Operand} {b : Nat} {kk : IntKind} {i : Int} (hg : o.guard = none) (ho : o.op = .indexAddr t x y) (k : Nat) (hE : ArP P t m e) (hx : ev F x = .pointer (some ⟨b, 0, none⟩)) (hy : ev F y = .int kk i) (hik : i = k) (hlt : k < m)
    (hk : WL P n os l K (updo F o.dst (.pointer (some ⟨b, k, none⟩))) w) : WL P n os (o :: l) K F w := by
  refine WL.val hg (fun hok => ?_) hk
  have e1 := okX_at (F := F) hok (x := x) (by simp [ho, Op.operands])
  have e2 := okX_at (F := F) hok (x := y) (by simp [ho, Op.operands])
  subst hik
  have hr : (0 : Int) ≤ k ∧ (k : Int) < m := by omega
  have hadd : (⟨b, 0, none⟩ : Addr).add k = ⟨b, k, none⟩ := by unfold Addr.add; split <;> simp_all
  simp only [execOp, ho, e1, hx, e2, hy, Instr.indexAt, Instr.sureAddr, asIntOf, Sem.run_bind, Sem.run_pure, Result.andThen_ok, run_underlying hE.und, hr, and_self, if_true, run_sizeOf w hE.one, Int.toNat_natCast, Nat.mul_one, hadd]
theorem RQ.ixP {o : Oper} {x y : Operand} {b : Nat} {kk : IntKind} {i : Int} (hg : o.guard = none) (ho : o.op = .indexAddr t x y) (k : Nat) (hE : ArP P t m e) (hx : ev F x = .pointer (some ⟨b, 0, none⟩)) (hy : ev F y = .int kk i) (hik : i = k) (hlt : k < m)
    {d : Nat} (hd : o.dst = some d) (hfd : F d = (.pointer (some ⟨b, k, none⟩))) : RQ P n os w F o := by
  refine RQ.val hg (fun hok mm => ?_) hd hfd
  generalize hw0 : w.drewN mm = w0
  clear hw0
  have e1 := okX_at (F := F) hok (x := x) (by simp [ho, Op.operands])
  have e2 := okX_at (F := F) hok (x := y) (by simp [ho, Op.operands])
  subst hik
  have hr : (0 : Int) ≤ k ∧ (k : Int) < m := by omega
  have hadd : (⟨b, 0, none⟩ : Addr).add k = ⟨b, k, none⟩ := by unfold Addr.add; split <;> simp_all
  simp only [execOp, ho, e1, hx, e2, hy, Instr.indexAt, Instr.sureAddr, asIntOf, Sem.run_bind, Sem.run_pure, Result.andThen_ok, run_underlying hE.und, hr, and_self, if_true, run_sizeOf w0 hE.one, Int.toNat_natCast, Nat.mul_one, hadd]
theorem WQ.ixP {K : Fm → Prop} {o : Oper} {x y : Operand} {b : Nat} {kk : IntKind} {i : Int} (hg : o.guard = none) (ho : o.op = .indexAddr t x y) (k : Nat) (hE : ArP P t m e) (hx : ev F x = .pointer (some ⟨b, 0, none⟩)) (hy : ev F y = .int kk i) (hik : i = k) (hlt : k < m)
    (hk : WQ P n os l w K (updo F o.dst (.pointer (some ⟨b, k, none⟩)))) : WQ P n os (o :: l) w K F := by
  refine WQ.val hg (fun hok mm => ?_) hk
  generalize hw0 : w.drewN mm = w0
  clear hw0
  have e1 := okX_at (F := F) hok (x := x) (by simp [ho, Op.operands])
  have e2 := okX_at (F := F) hok (x := y) (by simp [ho, Op.operands])
  subst hik
  have hr : (0 : Int) ≤ k ∧ (k : Int) < m := by omega
  have hadd : (⟨b, 0, none⟩ : Addr).add k = ⟨b, k, none⟩ := by unfold Addr.add; split <;> simp_all
  simp only [execOp, ho, e1, hx, e2, hy, Instr.indexAt, Instr.sureAddr, asIntOf, Sem.run_bind, Sem.run_pure, Result.andThen_ok, run_underlying hE.und, hr, and_self, if_true, run_sizeOf w0 hE.one, Int.toNat_natCast, Nat.mul_one, hadd]
end
/-- some cells of an element -/
theorem RdE.sub {w : World} {size k : Nat} {a : Option Addr} {cs : List Value} (h : RdE w size a k cs) (d : Nat) (sub : List Value) (hs : (cs.drop d).take sub.length = sub) (j : Nat) (u : Value) (hj : sub[j]? = some u) : w.cell? ⟨bo a, oo a + k * size + d + j, none⟩ = some u := by
  have hlt := (List.getElem?_eq_some_iff.1 hj).1
  rw [← hs, List.getElem?_take, if_pos hlt, List.getElem?_drop] at hj
  rw [Nat.add_assoc]
  exact h (d + j) u hj
/-- the weights up to a height, as they lie in the array -/
def wtA (h : Nat) : Array Value := ((List.range 81).map fun i : Nat => Value.int .i64 (if i < h then (Tr.wt i : Int) else 0)).toArray
theorem wtA_size (h : Nat) : (wtA h).size = 81 := by simp [wtA]
theorem wtA_at {h k : Nat} (hk : k < h) (hh : h ≤ 81) : (wtA h)[k]? = some (.int .i64 (Tr.wt k : Int)) := by
  unfold wtA
  rw [List.getElem?_toArray, List.getElem?_map, List.getElem?_range (by omega)]
  simp [hk]
theorem wtA_set {h : Nat} (hh : h < 81) : (wtA h).setIfInBounds h (.int .i64 (Tr.wt h : Int)) = wtA (h + 1) := by
  apply Array.ext_getElem?
  intro i
  rw [Array.getElem?_setIfInBounds]
  by_cases hi : h = i
  · subst hi
    rw [if_pos rfl, if_pos (by rw [wtA_size]; exact hh), wtA_at (by omega) (by omega)]
  · rw [if_neg hi]
    unfold wtA
    rw [List.getElem?_toArray, List.getElem?_toArray, List.getElem?_map, List.getElem?_map]
    by_cases h2 : i < 81
    · rw [List.getElem?_range h2]
      simp only [Option.map_some]
      by_cases h3 : i < h
      · rw [if_pos h3, if_pos (by omega)]
      · rw [if_neg h3, if_neg (by omega)]
    · rw [List.getElem?_eq_none (by simp; omega)]; rfl
theorem wt_big : ∀ h, h ≤ 81 → Tr.wt h ≤ 500000000000000 := by decide
end Go.V
