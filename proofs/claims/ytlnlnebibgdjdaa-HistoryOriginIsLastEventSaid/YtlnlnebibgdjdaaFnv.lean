/-
  The engine: function values, and stores into a map at a key that is there. No program.
  Conditions: none; every fact is proved from the library's own definitions.
-/
import Derived.Test.YtlnlnebibgdjdaaEgb
namespace Go.V
open Go Go.RowKit

section
variable {P : Program} {T : Tab} [hT : TabOk P T] {n : Nat} {os l : List Oper} {K : Kt} {F : Fm} {w g : World} {L : List HP} {t kt et : TypeId} {d : TypeDesc} {z : Value} {b c : Nat}
/-- func(..) {..}, with what it captures -/
theorem WL.mkF {o : Oper} {f : FuncId} {cs : List Operand} {vs : List Value} (hg : o.guard = none) (ho : o.op = .makeFunc (.func f) #[] cs.toArray) (hv : evs F cs = vs)
    (hk : WL P n os l K (updo F o.dst (.func (.func f) #[] vs.toArray)) w) : WL P n os (o :: l) K F w := by
  subst hv
  refine WL.val hg (fun hok => ?_) hk
  have e : cs.toArray.map (act n F).eval = (evs F cs).toArray := by
    rw [evs_eq, List.map_toArray]
    congr 1
    exact List.map_congr_left fun x hx => okX_at hok (by simpa [ho, Op.operands] using hx)
  simp only [execOp, ho, Instr.makeFunc, e, Sem.run_bind, Sem.run_pure, Result.andThen_ok, List.map_toArray, List.map_nil]
/-- a call of a function value -/
theorem WL.callV {o : Oper} {f : FuncId} {x : Operand} {xs : List Operand} {ts : Array TypeId} {vs bs : List Value} {Ψ : Value → World → Prop} (hg : o.guard = none) (ho : o.op = .call { callee := .value x, args := xs.toArray, argTypes := ts }) (hx : ev F x = .func (.func f) #[] bs.toArray) (hs : Sp P f vs w Ψ) (hv : evs F xs ++ bs = vs)
    (hk : ∀ v w', Ψ v w' → WL P n os l K (updo F o.dst v) w') : WL P n os (o :: l) K F w :=
  ⟨fun h1 h2 => by
    obtain ⟨h3, h4⟩ := okL_cons h2
    unfold wpList
    rw [if_pos (by simp [Region.wanted, hg])]
    refine .inl ?_
    unfold Oper.wp
    have hr : (execOp (act n F).eval o).run P w = .ok (.enter f vs.toArray) w := by
      obtain ⟨fn, c, q1, q2, q3⟩ := hs.cf
      have e : xs.toArray.map (act n F).eval = (evs F xs).toArray := by
        rw [evs_eq, List.map_toArray]
        congr 1
        refine List.map_congr_left fun y hy => ?_
        exact okX_of h3 (by simp [ho, Op.operands, Call.operands, hy])
      have ex : (act n F).eval x = .func (.func f) #[] bs.toArray := by
        rw [← hx]; exact okX_of h3 (by simp [ho, Op.operands, Call.operands])
      have q2' : ¬ fn.name = "runtime.NumGoroutine" := by simpa using q2
      have ea : (evs F xs).toArray ++ bs.toArray = vs.toArray := by rw [← hv]; simp
      simp only [execOp, ho, resolve, e, ex, Deferred.ofValue, Sem.run_bind, Sem.run_pure, Result.andThen_ok, invoke, Array.empty_append, ea]
      simp [callFunc, q1, q2', q3]
    rw [hr, Oper.upon_enter]
    refine hs.go.mono ?_
    rintro e w' ⟨v, rfl, hΨ⟩
    simp only [act_put]
    exact (hk v w' hΨ).go h1 h4⟩
theorem mE_modify (m : List (Value × Value × Nat)) (j : Nat) (k v u : Value) (q : Nat) (h : m[j]? = some (k, u, q)) : (mE m).modify j (fun e => { e with key := k, val := v }) = mE (m.set j (k, v, q)) := by
  apply Array.ext_getElem?
  intro i
  rw [Array.getElem?_modify]
  have e1 : ∀ (l : List (Value × Value × Nat)) (i : Nat), (mE l)[i]? = l[i]?.map fun x => { key := x.1, val := x.2.1, born := x.2.2 } := fun l i => by simp [mE]
  rw [e1, e1]
  by_cases hi : j = i
  · subst hi
    have hl := (List.getElem?_eq_some_iff.1 h).1
    rw [if_pos rfl, h, List.getElem?_set_self hl]; rfl
  · rw [if_neg hi, List.getElem?_set_ne hi]
/-- m[k] = v, a key that is there -/
theorem WL.muE {o : Oper} {x y qq : Operand} {k v u : Value} {m : List (Value × Value × Nat)} {j bn : Nat} (hg : o.guard = none) (hd : o.dst = none) (ho : o.op = .mapUpdate t x y qq) (hM : MapT P t kt d et z) (i : Nat) (hS : St g L w) (hi : L[i]? = some (blk b (.map (mE m) c))) (hx : ev F x = .map (some b)) (hy : ev F y = k) (hq : ev F qq = v) (hkk : MapKept.IsKey d k) (hf : mfind d k m = some (some (j, u))) (hj : m[j]? = some (k, u, bn))
    (hk : ∀ w', St g (L.set i (blk b (.map (mE (m.set j (k, v, bn))) c))) w' → WL P n os l K F w') : WL P n os (o :: l) K F w := by
  have hb := hS.heap i hi
  have hS' := ((hS.at_ i hi).setObj (ob' := .map (mE (m.set j (k, v, bn))) c)).back i hi
  refine WL.unit hg hd (fun hok => ?_) (hk _ hS')
  have e1 := okX_at (F := F) hok (x := x) (by simp [ho, Op.operands])
  have e2 := okX_at (F := F) hok (x := y) (by simp [ho, Op.operands])
  have e3 := okX_at (F := F) hok (x := qq) (by simp [ho, Op.operands])
  have h1 := MapKept.run_checkKey (w := w) hM.key hkk false 9999
  have h2 := MapKept.run_findKey (w := w) hM.key hf
  have h3 := mE_modify m j k v u bn hj
  have h4 : ((((mE m)[j]?).map (·.key)).getD k) = k := by simp [mE, hj]
  have h5 := MapKept.run_keyThatStays (P := P) (w := w) hkk
  have hr : (Instr.mapUpdate t (.map (some b)) k v).run P w = .ok () { w with heap := w.heap.setIfInBounds b (.map (mE (m.set j (k, v, bn))) c) } := by
    unfold Instr.mapUpdate
    simp only [Sem.run_bind, run_underlying hM.und, Result.andThen_ok, MapKept.run_getObj_map hb, h1, h2, h4, h5, h3, MapKept.run_setObj_map _ hb]
  simp only [execOp, ho, e1, hx, e2, hy, e3, hq, Sem.run_bind, hr, Result.andThen_ok, Sem.run_pure]
theorem WL.muR {o : Oper} {x y qq : Operand} {k v u : Value} {m : List (Value × Value × Nat)} {j bn : Nat} (m' : List (Value × Value × Nat)) (hg : o.guard = none) (hd : o.dst = none) (ho : o.op = .mapUpdate t x y qq) (hM : MapT P t kt d et z) (i : Nat) (hS : St g L w) (hi : L[i]? = some (blk b (.map (mE m) c))) (hx : ev F x = .map (some b)) (hy : ev F y = k) (hq : ev F qq = v) (hkk : MapKept.IsKey d k) (hf : mfind d k m = some (some (j, u))) (hj : m[j]? = some (k, u, bn)) (he : m.set j (k, v, bn) = m')
    (hk : ∀ w', St g (L.set i (blk b (.map (mE m') c))) w' → WL P n os l K F w') : WL P n os (o :: l) K F w := by
  subst he
  exact WL.muE hg hd ho hM i hS hi hx hy hq hkk hf hj hk
/-- m[k], in a region that draws its order -/
theorem WQ.lk {K : Fm → Prop} {o : Oper} {x y : Operand} {ok : Bool} {k v : Value} {r : Option (Nat × Value)} {es : Array MapEntry} (hg : o.guard = none) (ho : o.op = .lookup t x y ok) (hM : MapT P t kt d et z) (i : Nat) (hS : St g L w) (hi : L[i]? = some (blk b (.map es c))) (hx : ev F x = .map (some b)) (hy : ev F y = k) (hkk : MapKept.IsKey d k) (hf : Instr.findNow d k es.toList 0 = some r) (hv : lkV r z ok = v)
    (hk : WQ P n os l w K (updo F o.dst v)) : WQ P n os (o :: l) w K F := by
  refine WQ.val hg (fun hok mm => ?_) hk
  have e1 := okX_at (F := F) hok (x := x) (by simp [ho, Op.operands])
  have e2 := okX_at (F := F) hok (x := y) (by simp [ho, Op.operands])
  simp only [execOp, ho, e1, hx, e2, hy, Sem.run_bind, run_lookup_m hM ((hS.drewN mm).heap i hi) hkk hf hv, Result.andThen_ok, Sem.run_pure]
theorem RQ.lk {o : Oper} {x y : Operand} {ok : Bool} {k v : Value} {r : Option (Nat × Value)} {es : Array MapEntry} (hg : o.guard = none) (ho : o.op = .lookup t x y ok) (hM : MapT P t kt d et z) (i : Nat) (hS : St g L w) (hi : L[i]? = some (blk b (.map es c))) (hx : ev F x = .map (some b)) (hy : ev F y = k) (hkk : MapKept.IsKey d k) (hf : Instr.findNow d k es.toList 0 = some r) (hv : lkV r z ok = v)
    {dd : Nat} (hdd : o.dst = some dd) (hfd : F dd = v) : RQ P n os w F o := by
  refine RQ.val hg (fun hok mm => ?_) hdd hfd
  have e1 := okX_at (F := F) hok (x := x) (by simp [ho, Op.operands])
  have e2 := okX_at (F := F) hok (x := y) (by simp [ho, Op.operands])
  simp only [execOp, ho, e1, hx, e2, hy, Sem.run_bind, run_lookup_m hM ((hS.drewN mm).heap i hi) hkk hf hv, Result.andThen_ok, Sem.run_pure]
/-- len(m), in such a region -/
theorem WQ.lenM {K : Fm → Prop} {o : Oper} {x : Operand} {es : Array MapEntry} (hg : o.guard = none) (ho : o.op = .call { callee := .builtin .len, args := #[x], argTypes := #[t] }) (hM : MapT P t kt d et z) (i : Nat) (hS : St g L w) (hi : L[i]? = some (blk b (.map es c))) (hx : ev F x = .map (some b))
    (hk : WQ P n os l w K (updo F o.dst (.int .i64 (es.size : Int)))) : WQ P n os (o :: l) w K F := by
  refine WQ.val hg (fun hok mm => ?_) hk
  have e1 := okX_at (F := F) hok (x := x) (by simp [ho, Op.operands, Call.operands])
  have hr : (Builtin.len_ #[t] o.type #[.map (some b)]).run P (w.drewN mm) = .ok (.int .i64 (es.size : Int)) (w.drewN mm) := by
    simp [Builtin.len_, run_underlying hM.und, MapKept.run_getObj_map ((hS.drewN mm).heap i hi), goInt]
  simp only [execOp, ho, resolve, invoke, builtin, Sem.run_bind, Sem.run_pure, Result.andThen_ok, List.map_toArray, List.map_cons, List.map_nil, e1, hx, hr]
end
end Go.V
