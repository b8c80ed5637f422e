/-
  The engine, fifth part, no program: functions' entries; operations that touch memory.
  Conditions: none; every fact is proved from the library's own definitions.
-/
import Derived.Test.YtenkmjbghbegfaaDoorCode
namespace Go.V
open Go Go.RowKit

abbrev fin (P : Program) (rs : List ResultVar) (Ψ : Value → World → Prop) : Qt := fun e F w => match e with
  | .nrm => ∃ vs, rsOk P F w rs vs ∧ Ψ (tup vs) w
  | .ret => ∃ vs, rsOk P F w rs vs ∧ Ψ (tup vs) w
  | .ext _ => False
def fr0 : List Value → Fm
  | [], _ => undef
  | v :: _, 0 => v
  | _ :: r, t + 1 => fr0 r t
theorem fr0_get : ∀ (vs : List Value) (t : Nat), fr0 vs t = vs.getD t undef
  | [], t => by simp [fr0]
  | v :: _, 0 => by simp [fr0]
  | _ :: r, t + 1 => by simp [fr0, fr0_get r t]

section
variable {P : Program} {n : Nat} {os l : List Oper} {K : Kt} {F : Fm} {w : World}
theorem Sp.enter {f : FuncId} {fn : Func} {c : Code} {vs : List Value} {Ψ : Value → World → Prop} (hf : P.funcs[f]? = some fn) (hb : fn.body = some c) (hnm : (fn.name == "runtime.NumGoroutine") = false)
    (hok : (okC fn.ntmps c && okR fn.ntmps fn.results.toList && Nat.ble vs.length fn.ntmps) = true) (h : WC P fn.ntmps c (fin P fn.results.toList Ψ) (fr0 vs) w) : Sp P f vs w Ψ := by
  simp only [Bool.and_eq_true] at hok
  obtain ⟨⟨h1, h2⟩, h3⟩ := hok
  have h3 := Nat.le_of_ble_eq_true h3
  refine ⟨⟨fn, c, hf, hnm, hb⟩, calls_of_wp hf hb ?_⟩
  have e : ({ tmps := vs.toArray ++ Array.replicate (fn.ntmps - vs.toArray.size) undef, defers := [] } : Act) = act fn.ntmps (fr0 vs) := by
    simp only [act, Act.mk.injEq, and_true]
    apply Array.ext
    · simp; omega
    · intro i q1 q2
      simp only [Array.getElem_append, Array.getElem_ofFn, fr0_get]
      split
      · rename_i hi
        simp at hi
        simp [hi]
      · rename_i hi
        simp at hi
        simp [hi]
  rw [e]
  refine wp_mono (h.go h1) fun ex a w hh => ?_
  cases ex <;> first
    | exact hh.elim
    | (obtain ⟨F, rfl, vs', hr, hΨ⟩ := hh
       exact ⟨rfl, _, run_results h2 hr, _, rfl, hΨ⟩)
    | (obtain ⟨F, rfl, hF⟩ := hh
       exact hF.elim)

/-! ### facts about types -/
/-- the cells of the zero value of type t -/
def ZV (P : Program) (t : TypeId) (cs : Array Value) : Prop := ∃ i z, P.info? t = some i ∧ i.zero = some z ∧ z.cells = cs
/-- a type of m cells, a struct or an array -/
def AggT (P : Program) (t : TypeId) (m : Nat) : Prop := (P.underlying t).isSome = true ∧ isAggB P t = true ∧ ∃ i, P.info? t = some i ∧ i.size = m
/-- t is a slice type; its elements: type e, zero value z, size cells, bytes -/
structure Elem (P : Program) (t e : TypeId) (z : Array Value) (size bytes : Nat) : Prop where
  und : P.underlying t = some (.slice e)
  info : ∃ i zv, P.info? e = some i ∧ i.zero = some zv ∧ zv.cells = z ∧ i.size = size ∧ i.bytes = bytes
  zsz : z.size = size
  pos : 0 < size
  one : ∀ u ∈ z.toList, u.oneCell' = true

variable {T : Tab} [hT : TabOk P T] {g : World} {L : List HP}

theorem okX_at {o : Oper} {x : Operand} (h : okO n o = true) (hx : x ∈ o.op.operands.toList) : (act n F).eval x = ev F x := okX_of h hx

/-- new(T), a variable of a struct type -/
theorem WL.new {o : Oper} {t : TypeId} {cs : Array Value} (hg : o.guard = none) (ho : o.op = .alloc t) (hz : ZV P t cs) (hS : St g L w) (hk : ∀ b w', St g (cel b cs t :: L) w' → WL P n os l K (updo F o.dst (.pointer (some ⟨b, 0, none⟩))) w') : WL P n os (o :: l) K F w := by
  obtain ⟨i, z, h1, h2, rfl⟩ := hz
  refine WL.val hg (fun _ => ?_) (hk w.heap.size (w.alloc (.cells z.cells t)) (hS.new _))
  simp [execOp, ho, Instr.alloc, zeroValue, typeInfo, h1, h2, newVar, newRow, newObj]
  rfl
/-- a parameter that lies in memory -/
theorem WL.box {o : Oper} {t : TypeId} {x : Operand} {v : Value} (hg : o.guard = none) (ho : o.op = .box t x) (cs : Array Value) (hS : St g L w) (hv : ev F x = v) (hc : v.cells = cs) (hk : ∀ b w', St g (cel b cs t :: L) w' → WL P n os l K (updo F o.dst (.pointer (some ⟨b, 0, none⟩))) w') : WL P n os (o :: l) K F w := by
  subst hc
  refine WL.val hg (fun hok => ?_) (hk w.heap.size (w.alloc (.cells v.cells t)) (hS.new _))
  have e := okX_at (F := F) hok (x := x) (by simp [ho, Op.operands])
  simp [execOp, ho, e, hv, Instr.box, newVar, newRow, newObj]
  rfl

theorem frozen_cel {b off : Nat} {cs : Array Value} {t : TypeId} (h : w.heap[b]? = some (.cells cs t (0, 0))) : w.frozen? ⟨b, off, none⟩ = false := by simp [World.frozen?, h]
theorem St.heap (hS : St g L w) (i : Nat) {b : Nat} {ob : Obj} (hi : L[i]? = some (blk b ob)) : w.heap[b]? = some ob := by
  obtain ⟨o1, r, hA, ho, hr⟩ := hS.get i hi
  exact ho _ _ hA
theorem St.setRow {b t : Nat} {cs cs' : Array Value} (h : St g (cel b cs t :: L) w) : St g (cel b cs' t :: L) (w.setRow b cs') := by
  refine h.upd rfl rfl rfl (by simp [World.setRow]) fun o1 r hA hw _ _ => ⟨fun k => if k = b then some (.cells cs' t (0, 0)) else none, by simp [blk], fun k x hx => ?_, fun k hk => ?_, fun k hk hn => ?_⟩
  · simp only at hx
    split at hx
    · rename_i hk; subst hk
      simp only [Option.some.injEq] at hx; subst hx
      exact setRow_heap w _ cs cs' t _ (hw _ _ hA)
    · cases hx
  · simp only [ne_eq, ite_eq_right_iff, reduceCtorEq, imp_false, Classical.not_not] at hk
    subst hk
    exact .inl (by rw [show o1 k = some (.cells cs t (0, 0)) from hA]; simp)
  · refine setRow_other w b k cs' fun e => ?_
    have : o1 k = some (.cells cs t (0, 0)) := by rw [e]; exact hA
    rw [hn] at this; cases this
/-- cells k.. of a row, written -/
def spl (cs : Array Value) (off : Nat) (vs : List Value) : Array Value := (cs.toList.take off ++ vs ++ cs.toList.drop (off + vs.length)).toArray
theorem run_storeVar {t off b : Nat} {t' : TypeId} {cs : Array Value} {v : Value} (hs : ∃ i, P.info? t = some i ∧ i.size = v.cells.size) (hh : w.heap[b]? = some (.cells cs t' (0, 0))) (h1 : ∀ u ∈ v.cells.toList, u.oneCell' = true)
    (hc : off + v.cells.size ≤ cs.size) : (storeVar t ⟨b, off, none⟩ v).run P w = .ok () (w.setRow b (spl cs off v.cells.toList)) := by
  have h2 := run_storeCells_at P b off t' v.cells.toList 0 cs w hh (by simpa using hc) h1
  simp only [Nat.add_zero] at h2
  simp only [storeVar, Sem.run_bind, run_sizeOf w hs, Result.andThen_ok, ne_eq, not_true_eq_false, if_false, h2]
  rfl
/-- a store of one cell into a row of its own -/
theorem WL.st {o : Oper} {t : TypeId} {x y : Operand} {b off : Nat} {cs : Array Value} {t' : TypeId} {v : Value} (hg : o.guard = none) (hd : o.dst = none) (ho : o.op = .store t x y) (i : Nat) (hS : St g L w) (hi : L[i]? = some (cel b cs t')) (hx : ev F x = .pointer (some ⟨b, off, none⟩)) (hv : ev F y = v)
    (h1 : v.oneCell' = true) (hc : Nat.blt off cs.size = true) (ht : mem T.ones t = true) (hk : ∀ w', St g (L.set i (cel b (cs.setIfInBounds off v) t')) w' → WL P n os l K F w') : WL P n os (o :: l) K F w := by
  have hc := blt_iff.1 hc
  have hh := hS.heap i hi
  have hcs : v.cells = #[v] := by cases v <;> simp [Value.oneCell'] at h1 <;> rfl
  have hS' : St g (L.set i (cel b (cs.setIfInBounds off v) t')) (w.setCell ⟨b, off, none⟩ v) := ((hS.at_ i hi).set0 v).back i hi
  refine WL.unit hg hd (fun hok => ?_) (hk _ hS')
  have e1 := okX_at (F := F) hok (x := x) (by simp [ho, Op.operands])
  have e2 := okX_at (F := F) hok (x := y) (by simp [ho, Op.operands])
  obtain ⟨_, _, h3⟩ := Tab.one (P := P) ht
  have hcell : w.cell? ⟨b, off, none⟩ = some cs[off] := by rw [cell_of_row w b off cs t' (0, 0) hh]; simp [hc]
  have hst : (storeVar t ⟨b, off, none⟩ v).run P w = .ok () (w.setCell ⟨b, off, none⟩ v) := by
    simp only [storeVar, Sem.run_bind, run_sizeOf w h3, Result.andThen_ok, hcs, storeCells]
    simp [Addr.add, run_store _ _ _ _ _ h1, hcell, frozen_cel hh]
  simp only [execOp, ho, e1, e2, hx, hv, Instr.storeAt, Instr.sureAddr, Sem.run_bind, Sem.run_pure, Result.andThen_ok, hst]
/-- a store of a struct over the whole of a row of its own -/
theorem WL.stF {o : Oper} {t : TypeId} {x y : Operand} {b : Nat} {cs vs : Array Value} {t' : TypeId} (hg : o.guard = none) (hd : o.dst = none) (ho : o.op = .store t x y) (i : Nat) (hS : St g L w) (hi : L[i]? = some (cel b cs t')) (hx : ev F x = .pointer (some ⟨b, 0, none⟩)) (hv : ev F y = .agg vs)
    (h1 : vs.toList.all (·.oneCell') = true) (hc : vs.size = cs.size) (ht : AggT P t vs.size) (hk : ∀ w', St g (L.set i (cel b vs t')) w' → WL P n os l K F w') : WL P n os (o :: l) K F w := by
  have hh := hS.heap i hi
  have hspl : spl cs 0 vs.toList = vs := by
    unfold spl
    have : cs.toList.drop (0 + vs.toList.length) = [] := List.drop_eq_nil_of_le (by simp; omega)
    rw [this]; simp
  have hS' : St g (L.set i (cel b vs t')) (w.setRow b vs) := (St.setRow (hS.at_ i hi)).back i hi
  refine WL.unit hg hd (fun hok => ?_) (hk _ hS')
  have e1 := okX_at (F := F) hok (x := x) (by simp [ho, Op.operands])
  have e2 := okX_at (F := F) hok (x := y) (by simp [ho, Op.operands])
  have hst := run_storeVar (P := P) (t := t) (off := 0) (v := .agg vs) ht.2.2 hh (fun u hu => List.all_eq_true.1 h1 u hu) (by show 0 + vs.size ≤ _; omega)
  rw [show (Value.agg vs).cells.toList = vs.toList from rfl, hspl] at hst
  simp only [execOp, ho, e1, e2, hx, hv, Instr.storeAt, Instr.sureAddr, Sem.run_bind, Sem.run_pure, Result.andThen_ok, hst]

theorem run_loadAgg {t m b off : Nat} {cs : List Value} (ht : AggT P t m) (hl : cs.length = m) (h : ∀ (j : Nat) (u : Value), cs[j]? = some u → w.cell? ⟨b, off + j, none⟩ = some u) : (loadVar t ⟨b, off, none⟩).run P w = .ok (.agg cs.toArray) w := by
  have h2 := run_loadCells_list (P := P) w ⟨b, off, none⟩ cs (fun j v hj => by rw [show (⟨b, off, none⟩ : Addr).add j = ⟨b, off + j, none⟩ by unfold Addr.add; split <;> simp_all]; exact h j v hj)
  rw [hl] at h2
  simp only [loadVar, Sem.run_bind, run_isAgg w ht.1, ht.2.1, Result.andThen_ok, if_true, run_sizeOf w ht.2.2, h2, Sem.run_pure]
theorem run_loadOne {t : TypeId} {a : Addr} {v : Value} (ht : mem T.ones t = true) (hc : w.cell? a = some v) : (loadVar t a).run P w = .ok v w := by
  obtain ⟨h1, h2, _⟩ := Tab.one (P := P) ht
  simp only [loadVar, Sem.run_bind, run_isAgg w h1, h2, Result.andThen_ok, Bool.false_eq_true, if_false, load, Sem.run, hc]
/-- a struct is read from the whole of a row of its own -/
theorem WL.ldF {o : Oper} {t : TypeId} {x : Operand} {b : Nat} {cs : Array Value} {t' : TypeId} (hg : o.guard = none) (ho : o.op = .load t x) (i : Nat) (hS : St g L w) (hi : L[i]? = some (cel b cs t')) (hx : ev F x = .pointer (some ⟨b, 0, none⟩)) (ht : AggT P t cs.size)
    (hk : WL P n os l K (updo F o.dst (.agg cs)) w) : WL P n os (o :: l) K F w := by
  refine WL.val hg (fun hok => ?_) hk
  have e1 := okX_at (F := F) hok (x := x) (by simp [ho, Op.operands])
  have hl := run_loadAgg (P := P) (w := w) (b := b) (off := 0) (cs := cs.toList) ht (by simp) (fun j u hj => by rw [Nat.zero_add]; exact hS.ld i hi (by simpa using hj))
  simp only [execOp, ho, e1, hx, Instr.loadAt, Instr.sureAddr, Sem.run_bind, Sem.run_pure, Result.andThen_ok, hl, Array.toArray_toList]
/-- a struct is read, its cells known one by one -/
theorem WL.ldC {o : Oper} {t : TypeId} {x : Operand} {b off : Nat} (hg : o.guard = none) (ho : o.op = .load t x) (cs : List Value) (ht : AggT P t cs.length) (hx : ev F x = .pointer (some ⟨b, off, none⟩)) (hc : ∀ (j : Nat) (u : Value), cs[j]? = some u → w.cell? ⟨b, off + j, none⟩ = some u)
    (hk : WL P n os l K (updo F o.dst (.agg cs.toArray)) w) : WL P n os (o :: l) K F w := by
  refine WL.val hg (fun hok => ?_) hk
  have e1 := okX_at (F := F) hok (x := x) (by simp [ho, Op.operands])
  simp only [execOp, ho, e1, hx, Instr.loadAt, Instr.sureAddr, Sem.run_bind, Sem.run_pure, Result.andThen_ok, run_loadAgg ht rfl hc]
/-- the address of element k of a slice -/
theorem WL.ix {o : Oper} {t e : TypeId} {z : Array Value} {size bytes m c : Nat} {x y : Operand} {a : Option Addr} {kk : IntKind} {i : Int} (hg : o.guard = none) (ho : o.op = .indexAddr t x y) (k : Nat) (hE : Elem P t e z size bytes) (hx : ev F x = .slice a m c) (hy : ev F y = .int kk i) (hik : i = k) (hlt : k < m) (hA : IsA a)
    (hk : WL P n os l K (updo F o.dst (.pointer (some ⟨bo a, oo a + k * size, none⟩))) w) : WL P n os (o :: l) K F w := by
  refine WL.val hg (fun hok => ?_) hk
  have e1 := okX_at (F := F) hok (x := x) (by simp [ho, Op.operands])
  have e2 := okX_at (F := F) hok (x := y) (by simp [ho, Op.operands])
  obtain ⟨b, off, rfl⟩ := hA
  obtain ⟨info, zv, h1, h2, h3, h4, h5⟩ := hE.info
  subst hik
  have hr : (0 : Int) ≤ k ∧ (k : Int) < m := by omega
  have hadd : (⟨b, off, none⟩ : Addr).add (k * size) = ⟨b, off + k * size, none⟩ := by unfold Addr.add; split <;> simp_all
  simp only [execOp, ho, e1, hx, e2, hy, Instr.indexAt, asIntOf, Sem.run_bind, Sem.run_pure, Result.andThen_ok, run_underlying hE.und, hr, and_self, if_true]
  simp [sizeOf, typeInfo, h1, h4, hadd, bo, oo]
end
end Go.V
