/-
  The engine: structs whose first field is a struct, compared.
  Conditions: none; every fact is proved from the library's own definitions.
-/
import Derived.Test.YtlnlnebibgdjdaaEgb
import Derived.Test.YtlnlnebibgdjdaaArw
namespace Go.V
open Go Go.RowKit

theorem vEqs_app : ∀ (xs ys xs2 ys2 : List Value), xs.length = ys.length → vEqs (xs ++ xs2) (ys ++ ys2) = (bif vEqs xs ys then vEqs xs2 ys2 else false)
  | [], [], xs2, ys2, _ => by simp [vEqs]
  | [], _ :: _, _, _, h => by simp at h
  | _ :: _, [], _, _, h => by simp at h
  | [x], [y], [], ys2, _ => by
    show vEqs [x] (y :: ys2) = _
    simp [vEqs]
  | [x], [y], a :: xs2, ys2, _ => rfl
  | [_], _ :: _ :: _, _, _, h => by simp at h
  | _ :: _ :: _, [_], _, _, h => by simp at h
  | x :: x2 :: xs, y :: y2 :: ys, xs2, ys2, h => by
    have ih := vEqs_app (x2 :: xs) (y2 :: ys) xs2 ys2 (by simpa using h)
    show (bif vEq x y then vEqs ((x2 :: xs) ++ xs2) ((y2 :: ys) ++ ys2) else false) = (bif (bif vEq x y then vEqs (x2 :: xs) (y2 :: ys) else false) then vEqs xs2 ys2 else false)
    rw [ih]; cases vEq x y <;> rfl
def eqFN (P : Program) (e : TypeId) (m : Nat) (ks : List FK) : List Field → Bool
  | f :: fs => f.offset == 0 && f.name != "_" && f.type == e && eqF P fs m ks
  | [] => false
def szN (P : Program) (e : TypeId) (m : Nat) : Bool := match P.info? e with
  | some i => i.size == m
  | none => false
structure EqN (P : Program) (t e : TypeId) (ks1 ks2 : List FK) : Prop where
  und : P.underlying t = some (.struct (P.fieldsOf t))
  held : P.stoodInHeld t = false
  guard : P.eqGuardType P.depth t = false
  eund : P.underlying e = some (.struct (P.fieldsOf e))
  eheld : P.stoodInHeld e = false
  efs : eqF P (P.fieldsOf e).toList 0 ks1 = true
  agg : isAggB P e = true
  sz : szN P e ks1.length = true
  fs : eqFN P e ks1.length ks2 (P.fieldsOf t).toList = true
section
variable {P : Program} {T : Tab} [hT : TabOk P T] {n : Nat} {os l : List Oper} {F : Fm} {w g : World} {t e : TypeId} {ks1 ks2 : List FK}
theorem szN_ex {m : Nat} (h : szN P e m = true) : ∃ i, P.info? e = some i ∧ i.size = m := by
  unfold szN at h
  cases hi : P.info? e with
  | none => rw [hi] at h; cases h
  | some i => rw [hi] at h; exact ⟨i, rfl, by simpa using h⟩
theorem run_eqN (hE : EqN P t e ks1 ks2) {xs1 ys1 xs2 ys2 : List Value} (kx : xs1.map tyv = ks1) (ky : ys1.map tyv = ks1) (kx2 : xs2.map tyv = ks2) (ky2 : ys2.map tyv = ks2) (w : World) :
    (Op.equalIn 10000 t (.agg (xs1 ++ xs2).toArray) (.agg (ys1 ++ ys2).toArray)).run P w = .ok (vEqs (xs1 ++ xs2) (ys1 ++ ys2)) w := by
  have lx : xs1.length = ks1.length := by rw [← kx, List.length_map]
  have ly : ys1.length = ks1.length := by rw [← ky, List.length_map]
  rw [run_equalIn_agg (P := P) w 9999 t _ _ hE.und hE.held]
  have hf := hE.fs
  cases hfs : (P.fieldsOf t).toList with
  | nil => rw [hfs] at hf; cases hf
  | cons f fs =>
    rw [hfs] at hf
    simp only [eqFN, Bool.and_eq_true, beq_iff_eq, bne_iff_ne] at hf
    obtain ⟨⟨⟨h1, h2⟩, h3⟩, h4⟩ := hf
    have hp : ∀ zs1 zs2 : List Value, zs1.length = ks1.length → (part f.type (zs1 ++ zs2).toArray f.offset).run P w = .ok (.agg zs1.toArray) w := fun zs1 zs2 hz => by
      rw [h1, h3]
      simp only [part, Sem.run_bind, run_isAgg w (show (P.underlying e).isSome = true by rw [hE.eund]; rfl), hE.agg, Result.andThen_ok, if_true, run_sizeOf w (szN_ex hE.sz), Sem.run_pure]
      congr 2
      rw [Nat.zero_add, ← hz]
      simp
    have he : (Op.equalIn 9999 f.type (.agg xs1.toArray) (.agg ys1.toArray)).run P w = .ok (vEqs xs1 ys1) w := by
      rw [h3, run_equalIn_agg (P := P) w 9998 e _ _ hE.eund hE.eheld]
      exact run_eqFields (P := P) (w := w) 9997 xs1.toArray ys1.toArray _ 0 ks1 xs1 ys1 hE.efs (by simp) (by simp) kx ky
    have hr := run_eqFields (P := P) (w := w) 9998 (xs1 ++ xs2).toArray (ys1 ++ ys2).toArray fs ks1.length ks2 xs2 ys2 h4 (by simp [← lx]) (by simp [← ly]) kx2 ky2
    rw [vEqs_app xs1 ys1 xs2 ys2 (by rw [lx, ly])]
    simp only [Op.eqFields, ne_eq, h2, not_false_eq_true, if_true, Sem.run_bind, hp xs1 xs2 lx, hp ys1 ys2 ly, he, Result.andThen_ok, Sem.run_ite, hr]
    cases vEqs xs1 ys1 <;> simp
/-- x != y, two structs -/
theorem WL.neN {K : Kt} {o : Oper} {yt : TypeId} {x y : Operand} {xs1 ys1 xs2 ys2 : List Value} (hg : o.guard = none) (ho : o.op = .binOp .neq t x y yt) (hE : EqN P t e ks1 ks2) (hx : ev F x = .agg (xs1 ++ xs2).toArray) (hy : ev F y = .agg (ys1 ++ ys2).toArray) (kx : xs1.map tyv = ks1) (ky : ys1.map tyv = ks1) (kx2 : xs2.map tyv = ks2) (ky2 : ys2.map tyv = ks2)
    (hk : WL P n os l K (updo F o.dst (.bool (!vEqs (xs1 ++ xs2) (ys1 ++ ys2)))) w) : WL P n os (o :: l) K F w := by
  refine WL.val hg (fun hok => ?_) hk
  have e1 := okX_at (F := F) hok (x := x) (by simp [ho, Op.operands])
  have e2 := okX_at (F := F) hok (x := y) (by simp [ho, Op.operands])
  simp only [execOp, ho, e1, e2, hx, hy, Sem.run_bind, run_eqGuard_agg w _ _ _ _ _ _ hE.guard, run_neq_struct, run_eqN hE kx ky kx2 ky2 w, Result.andThen_ok, Sem.run_pure]
theorem WQ.neN {K : Fm → Prop} {o : Oper} {yt : TypeId} {x y : Operand} {xs1 ys1 xs2 ys2 : List Value} (hg : o.guard = none) (ho : o.op = .binOp .neq t x y yt) (hE : EqN P t e ks1 ks2) (hx : ev F x = .agg (xs1 ++ xs2).toArray) (hy : ev F y = .agg (ys1 ++ ys2).toArray) (kx : xs1.map tyv = ks1) (ky : ys1.map tyv = ks1) (kx2 : xs2.map tyv = ks2) (ky2 : ys2.map tyv = ks2)
    (hk : WQ P n os l w K (updo F o.dst (.bool (!vEqs (xs1 ++ xs2) (ys1 ++ ys2))))) : WQ P n os (o :: l) w K F := by
  refine WQ.val hg (fun hok mm => ?_) hk
  generalize hw0 : w.drewN mm = w0
  clear hw0
  have e1 := okX_at (F := F) hok (x := x) (by simp [ho, Op.operands])
  have e2 := okX_at (F := F) hok (x := y) (by simp [ho, Op.operands])
  simp only [execOp, ho, e1, e2, hx, hy, Sem.run_bind, run_eqGuard_agg w0 _ _ _ _ _ _ hE.guard, run_neq_struct, run_eqN hE kx ky kx2 ky2 w0, Result.andThen_ok, Sem.run_pure]
theorem RQ.neN {o : Oper} {yt : TypeId} {x y : Operand} {xs1 ys1 xs2 ys2 : List Value} (hg : o.guard = none) (ho : o.op = .binOp .neq t x y yt) (hE : EqN P t e ks1 ks2) (hx : ev F x = .agg (xs1 ++ xs2).toArray) (hy : ev F y = .agg (ys1 ++ ys2).toArray) (kx : xs1.map tyv = ks1) (ky : ys1.map tyv = ks1) (kx2 : xs2.map tyv = ks2) (ky2 : ys2.map tyv = ks2)
    {d : Nat} (hd : o.dst = some d) (hfd : F d = (.bool (!vEqs (xs1 ++ xs2) (ys1 ++ ys2)))) : RQ P n os w F o := by
  refine RQ.val hg (fun hok mm => ?_) hd hfd
  generalize hw0 : w.drewN mm = w0
  clear hw0
  have e1 := okX_at (F := F) hok (x := x) (by simp [ho, Op.operands])
  have e2 := okX_at (F := F) hok (x := y) (by simp [ho, Op.operands])
  simp only [execOp, ho, e1, e2, hx, hy, Sem.run_bind, run_eqGuard_agg w0 _ _ _ _ _ _ hE.guard, run_neq_struct, run_eqN hE kx ky kx2 ky2 w0, Result.andThen_ok, Sem.run_pure]
end
end Go.V
