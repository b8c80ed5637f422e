/-
  The engine, tenth part, no program: structs of numbers, bools and strings, compared.
  Conditions: none; every fact is proved from the library's own definitions.
-/
import Derived.Test.YtenkmjbghbegfaaDoorExt
import Derived.Laws.StructEq
namespace Go.V
open Go Go.RowKit

inductive FK where
  | int (k : IntKind)
  | bool
  | string
  | no
deriving DecidableEq
def fkind (P : Program) (ty : TypeId) : FK := match P.underlying ty with
  | some (.int k) => .int k
  | some .bool => .bool
  | some .string => .string
  | _ => .no
def tyv : Value → FK
  | .int k _ => .int k
  | .bool _ => .bool
  | .string _ => .string
  | _ => .no
def vEq : Value → Value → Bool
  | .int _ a, .int _ b => decide (a = b)
  | .bool a, .bool b => decide (a = b)
  | .string a, .string b => decide (a = b)
  | _, _ => false
def vEqs : List Value → List Value → Bool
  | [], _ => true
  | [x], y :: _ => vEq x y
  | x :: x2 :: xs, y :: ys => bif vEq x y then vEqs (x2 :: xs) ys else false
  | _ :: _, [] => false
def eqF (P : Program) : List Field → Nat → List FK → Bool
  | [], _, [] => true
  | f :: fs, i, k :: ks => f.offset == i && f.name != "_" && decide (fkind P f.type = k) && decide (k ≠ .no) && !isAggB P f.type && (P.underlying f.type).isSome && eqF P fs (i + 1) ks
  | _, _, _ => false
structure EqT (P : Program) (t : TypeId) (ks : List FK) : Prop where
  und : P.underlying t = some (.struct (P.fieldsOf t))
  held : P.stoodInHeld t = false
  guard : P.eqGuardType P.depth t = false
  fs : eqF P (P.fieldsOf t).toList 0 ks = true

section
variable {P : Program} {T : Tab} [hT : TabOk P T] {n : Nat} {os l : List Oper} {K : Kt} {F : Fm} {w g : World}

theorem run_vEq (d : Nat) (t : TypeId) (x y : Value) (hx : tyv x = fkind P t) (hy : tyv y = fkind P t) (hk : fkind P t ≠ .no) : (Op.equalIn (d + 1) t x y).run P w = .ok (vEq x y) w := by
  unfold fkind at hx hy hk
  split at hx
  · rename_i k hu
    cases x <;> simp [tyv] at hx
    simp only [hu] at hy
    cases y <;> simp [tyv] at hy
    subst hx; subst hy
    rw [run_equalIn_int w d t _ _ _ _ hu]; rfl
  · rename_i hu
    cases x <;> simp [tyv] at hx
    simp only [hu] at hy
    cases y <;> simp [tyv] at hy
    rw [run_equalIn_bool' w d t _ _ hu]; rfl
  · rename_i hu
    cases x <;> simp [tyv] at hx
    simp only [hu] at hy
    cases y <;> simp [tyv] at hy
    rename_i a b
    rw [run_equalIn_string w d t _ _ hu]
    congr 1
    simp only [vEq]
    by_cases h : a = b
    · subst h; simp
    · have : a.toList ≠ b.toList := fun e => h (by
        rw [ByteArray.toList_eq, ByteArray.toList_eq] at e
        obtain ⟨⟨x⟩⟩ := a
        obtain ⟨⟨y⟩⟩ := b
        have e : x = y := e
        rw [e])
      simp [h, this]
  · rename_i h1 h2 h3
    split at hk
    · rename_i k hu; exact absurd hu (h1 k)
    · rename_i hu; exact absurd hu h2
    · rename_i hu; exact absurd hu h3
    · exact absurd rfl hk
theorem run_eqFields (d : Nat) (X Y : Array Value) : ∀ (fs : List Field) (i : Nat) (ks : List FK) (xs ys : List Value), eqF P fs i ks = true → X.toList.drop i = xs → Y.toList.drop i = ys → xs.map tyv = ks → ys.map tyv = ks →
    (Op.eqFields (d + 1) X Y fs).run P w = .ok (vEqs xs ys) w
  | [], i, ks, xs, ys, h, hx, hy, kx, ky => by
    cases ks with
    | cons k ks => simp [eqF] at h
    | nil =>
      have : xs = [] := List.map_eq_nil_iff.1 kx
      subst this
      simp [Op.eqFields, vEqs]
  | f :: fs, i, [], xs, ys, h, hx, hy, kx, ky => by simp [eqF] at h
  | f :: fs, i, k :: ks, xs, ys, h, hx, hy, kx, ky => by
    simp only [eqF, Bool.and_eq_true, beq_iff_eq, bne_iff_ne, Bool.not_eq_true', decide_eq_true_eq] at h
    obtain ⟨⟨⟨⟨⟨⟨h1, h2⟩, h3⟩, h4⟩, h5⟩, h6⟩, h7⟩ := h
    match xs, kx with
    | x :: xs, kx =>
      match ys, ky with
      | y :: ys, ky =>
        simp only [List.map_cons, List.cons.injEq] at kx ky
        have hX : X[i]? = some x := by
          have : (X.toList.drop i)[0]? = some x := by rw [hx]; rfl
          simpa using this
        have hY : Y[i]? = some y := by
          have : (Y.toList.drop i)[0]? = some y := by rw [hy]; rfl
          simpa using this
        have px : (part f.type X f.offset).run P w = .ok x w := by
          rw [h1]; simp [part, run_isAgg w h6, h5, hX]
        have py : (part f.type Y f.offset).run P w = .ok y w := by
          rw [h1]; simp [part, run_isAgg w h6, h5, hY]
        have hx2 : X.toList.drop (i + 1) = xs := by rw [← List.drop_drop, hx]; rfl
        have hy2 : Y.toList.drop (i + 1) = ys := by rw [← List.drop_drop, hy]; rfl
        have ih := run_eqFields d X Y fs (i + 1) ks xs ys h7 hx2 hy2 kx.2 ky.2
        have he := run_vEq (P := P) (w := w) d f.type x y (by rw [kx.1, h3]) (by rw [ky.1, h3]) (by rw [h3]; exact h4)
        simp only [Op.eqFields, ne_eq, h2, not_false_eq_true, if_true, Sem.run_bind, px, py, he, Result.andThen_ok, Sem.run_ite, ih]
        cases hv : vEq x y with
        | true =>
          simp only [Bool.not_true, Bool.false_eq_true, if_false]
          congr 1
          match xs, kx.2 with
          | [], kk =>
            have : ks = [] := by rw [← kk]; rfl
            subst this
            simp [vEqs, hv]
          | x2 :: xs, _ => simp [vEqs, hv]
        | false =>
          simp only [Bool.not_false, if_true, Sem.run_pure]
          congr 1
          cases xs <;> simp [vEqs, hv]
/-- x == y, two structs -/
theorem WL.eqS {o : Oper} {t yt : TypeId} {x y : Operand} {ks : List FK} {xs ys : List Value} (hg : o.guard = none) (ho : o.op = .binOp .eql t x y yt) (hE : EqT P t ks) (hx : ev F x = .agg xs.toArray) (hy : ev F y = .agg ys.toArray) (kx : xs.map tyv = ks) (ky : ys.map tyv = ks)
    (hk : WL P n os l K (updo F o.dst (.bool (vEqs xs ys))) w) : WL P n os (o :: l) K F w := by
  refine WL.val hg (fun hok => ?_) hk
  have e1 := okX_at (F := F) hok (x := x) (by simp [ho, Op.operands])
  have e2 := okX_at (F := F) hok (x := y) (by simp [ho, Op.operands])
  have h1 := run_equalIn_agg (P := P) w 9999 t xs.toArray ys.toArray hE.und hE.held
  have h2 := run_eqFields (P := P) (w := w) 9998 xs.toArray ys.toArray _ 0 ks xs ys hE.fs (by simp) (by simp) kx ky
  simp only [execOp, ho, e1, e2, hx, hy, Sem.run_bind, run_eqGuard_agg w _ _ _ _ _ _ hE.guard, run_eql_struct, h1, h2, Result.andThen_ok, Sem.run_pure]
/-- x != y, two structs -/
theorem WL.neS {o : Oper} {t yt : TypeId} {x y : Operand} {ks : List FK} {xs ys : List Value} (hg : o.guard = none) (ho : o.op = .binOp .neq t x y yt) (hE : EqT P t ks) (hx : ev F x = .agg xs.toArray) (hy : ev F y = .agg ys.toArray) (kx : xs.map tyv = ks) (ky : ys.map tyv = ks)
    (hk : WL P n os l K (updo F o.dst (.bool (!vEqs xs ys))) w) : WL P n os (o :: l) K F w := by
  refine WL.val hg (fun hok => ?_) hk
  have e1 := okX_at (F := F) hok (x := x) (by simp [ho, Op.operands])
  have e2 := okX_at (F := F) hok (x := y) (by simp [ho, Op.operands])
  have h1 := run_equalIn_agg (P := P) w 9999 t xs.toArray ys.toArray hE.und hE.held
  have h2 := run_eqFields (P := P) (w := w) 9998 xs.toArray ys.toArray _ 0 ks xs ys hE.fs (by simp) (by simp) kx ky
  simp only [execOp, ho, e1, e2, hx, hy, Sem.run_bind, run_eqGuard_agg w _ _ _ _ _ _ hE.guard, run_neq_struct, h1, h2, Result.andThen_ok, Sem.run_pure]
end
end Go.V
