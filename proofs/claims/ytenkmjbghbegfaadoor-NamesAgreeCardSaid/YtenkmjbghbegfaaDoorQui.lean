/-
  The engine, eleventh part, no program: operations that only read, in a region that draws its order; remainders.
  Conditions: none; every fact is proved from the library's own definitions.
-/
import Derived.Test.YtenkmjbghbegfaaDoorEq
namespace Go.V
open Go Go.RowKit

section
variable {P : Program} {T : Tab} [hT : TabOk P T] {n : Nat} {os l : List Oper} {K : Fm → Prop} {F : Fm} {w g : World} {L : List HP} {size bytes : Nat} {z : Array Value}
theorem WQ.val {o : Oper} {v : Value} (hg : o.guard = none) (hr : okO n o = true → ∀ m, (execOp (act n F).eval o).run P (w.drewN m) = .ok (.value v) (w.drewN m)) (hk : WQ P n os l w K (updo F o.dst v)) : WQ P n os (o :: l) w K F :=
  ⟨fun h1 h2 => by
    obtain ⟨h3, h4⟩ := okL_cons h2
    unfold wpQuiet
    rw [if_pos (by simp [Region.wanted, hg])]
    refine ⟨v, ?_, ?_⟩
    · rintro w' ⟨m, rfl⟩
      unfold Oper.quietAt
      rw [hr h3 m]
      exact ⟨rfl, rfl⟩
    · rw [act_put]
      exact hk.go h1 h4⟩
theorem WQ.ldF {o : Oper} {t : TypeId} {x : Operand} {b : Nat} {cs : Array Value} {t' : TypeId} (hg : o.guard = none) (ho : o.op = .load t x) (i : Nat) (hS : St g L w) (hi : L[i]? = some (cel b cs t')) (hx : ev F x = .pointer (some ⟨b, 0, none⟩)) (ht : AggT P t cs.size)
    (hk : WQ P n os l w K (updo F o.dst (.agg cs))) : WQ P n os (o :: l) w K F := by
  refine WQ.val hg (fun hok mm => ?_) hk
  generalize hw0 : w.drewN mm = w0
  replace hS : St g L w0 := hw0 ▸ hS.drewN mm
  clear hw0
  have e1 := okX_at (F := F) hok (x := x) (by simp [ho, Op.operands])
  have hl := run_loadAgg (P := P) (w := w0) (b := b) (off := 0) (cs := cs.toList) ht (by simp) (fun j u hj => by rw [Nat.zero_add]; exact hS.ld i hi (by simpa using hj))
  simp only [execOp, ho, e1, hx, Instr.loadAt, Instr.sureAddr, Sem.run_bind, Sem.run_pure, Result.andThen_ok, hl, Array.toArray_toList]
theorem WQ.ldC {o : Oper} {t : TypeId} {x : Operand} {b off : Nat} (hg : o.guard = none) (ho : o.op = .load t x) (cs : List Value) (ht : AggT P t cs.length) (hx : ev F x = .pointer (some ⟨b, off, none⟩)) (hc : ∀ (j : Nat) (u : Value), cs[j]? = some u → w.cell? ⟨b, off + j, none⟩ = some u)
    (hk : WQ P n os l w K (updo F o.dst (.agg cs.toArray))) : WQ P n os (o :: l) w K F := by
  refine WQ.val hg (fun hok mm => ?_) hk
  generalize hw0 : w.drewN mm = w0
  replace hc : ∀ (j : Nat) (u : Value), cs[j]? = some u → w0.cell? ⟨b, off + j, none⟩ = some u := by subst hw0; exact hc
  clear hw0
  have e1 := okX_at (F := F) hok (x := x) (by simp [ho, Op.operands])
  simp only [execOp, ho, e1, hx, Instr.loadAt, Instr.sureAddr, Sem.run_bind, Sem.run_pure, Result.andThen_ok, run_loadAgg ht rfl hc]
theorem WQ.ix {o : Oper} {t e : TypeId} {z : Array Value} {size bytes m c : Nat} {x y : Operand} {a : Option Addr} {kk : IntKind} {i : Int} (hg : o.guard = none) (ho : o.op = .indexAddr t x y) (k : Nat) (hE : Elem P t e z size bytes) (hx : ev F x = .slice a m c) (hy : ev F y = .int kk i) (hik : i = k) (hlt : k < m) (hA : IsA a)
    (hk : WQ P n os l w K (updo F o.dst (.pointer (some ⟨bo a, oo a + k * size, none⟩)))) : WQ P n os (o :: l) w K F := by
  refine WQ.val hg (fun hok mm => ?_) hk
  generalize hw0 : w.drewN mm = w0
  clear hw0
  have e1 := okX_at (F := F) hok (x := x) (by simp [ho, Op.operands])
  have e2 := okX_at (F := F) hok (x := y) (by simp [ho, Op.operands])
  obtain ⟨b, off, rfl⟩ := hA
  obtain ⟨info, zv, h1, h2, h3, h4, h5⟩ := hE.info
  subst hik
  have hr : (0 : Int) ≤ k ∧ (k : Int) < m := by omega
  have hadd : (⟨b, off, none⟩ : Addr).add (k * size) = ⟨b, off + k * size, none⟩ := by unfold Addr.add; split <;> simp_all
  simp only [execOp, ho, e1, hx, e2, hy, Instr.indexAt, asIntOf, Sem.run_bind, Sem.run_pure, Result.andThen_ok, run_underlying hE.und, hr, and_self, if_true]
  simp [sizeOf, typeInfo, h1, h4, hadd, bo, oo]
theorem WQ.build {o : Oper} {t : TypeId} {ps : List (Nat × Operand)} {pl : List (Nat × Nat × Bool)} {cs : List Value} (hg : o.guard = none) (ho : o.op = .build t ps.toArray) (hz : ZV P t z) (hf : lk T.flds t = some pl) (h : fillL (plF pl) z.toList (evP F ps) = some cs)
    (hk : WQ P n os l w K (updo F o.dst (.agg cs.toArray))) : WQ P n os (o :: l) w K F := by
  obtain ⟨i, zv, h1, h2, h3⟩ := hz
  obtain ⟨h4, fs, h5, h6⟩ := (Tab.parts (P := P) (T := T)).2.2.2.2.2.1 _ (lk_mem _ _ _ hf)
  refine WQ.val hg (fun hok mm => ?_) hk
  generalize hw0 : w.drewN mm = w0
  clear hw0
  have hev := evP_act (F := F) (ps := ps) hok (fun p hp => by
    simp only [ho, Op.operands]
    exact List.mem_map.2 ⟨p, by simpa using hp, rfl⟩)
  have hpl : (fs.toList.mapM fun (f : Field) => (do pure (f.offset, ← sizeOf f.type) : Sem (Nat × Nat))).run P w0 = .ok (pl.map fun r => (r.1, r.2.1)) w0 := by
    refine run_mapM _ w0 _ _ (by simpa using h6) fun j f r hj hr => ?_
    rw [List.getElem?_map] at hr
    cases hq : pl[j]? with
    | none => simp [hq] at hr
    | some r0 =>
      simp only [hq, Option.map_some, Option.some.injEq] at hr
      have h7 := idxAll_spec pl 0 h4 j r0 hq
      simp only [Nat.zero_add, fieldB, h5] at h7
      have hj' : fs[j]? = some f := by simpa using hj
      simp only [hj', Bool.and_eq_true, beq_iff_eq] at h7
      obtain ⟨⟨⟨⟨q1, q2⟩, _⟩, _⟩, _⟩ := h7
      split at q2
      · rename_i info hinfo
        simp only [Sem.run_bind, run_sizeOf w0 ⟨info, hinfo, rfl⟩, Result.andThen_ok, Sem.run_pure, ← hr, q1]
        simp at q2; rw [q2]
      · cases q2
  have hfill := fill_eq (plF pl) (evP F ps) z.toList cs h
  have e0 : (fun i => ((pl.map fun r => (r.1, r.2.1)).toArray)[i]?) = plF pl := by
    funext i
    simp only [plF, nth_eq, List.getElem?_toArray, List.getElem?_map]
    cases pl[i]? <;> rfl
  have e1 : fs = fs.toList.toArray := by simp
  have e2 : (fs.mapM fun (f : Field) => (do pure (f.offset, ← sizeOf f.type) : Sem (Nat × Nat))).run P w0 = .ok (pl.map fun r => (r.1, r.2.1)).toArray w0 := by
    rw [e1, List.mapM_toArray]
    simp only [Sem.run_map, hpl, Result.andThen_ok]
  simp only [Array.toArray_toList] at hfill
  have hzv : (zeroValue t).run P w0 = .ok zv w0 := by simp [zeroValue, typeInfo, h1, h2]
  simp only [execOp, ho, Instr.build, Sem.run_bind, hzv, Sem.run_pure, Result.andThen_ok, run_underlying h5, h3, e2, e0, hev, hfill]
theorem WQ.eqS {o : Oper} {t yt : TypeId} {x y : Operand} {ks : List FK} {xs ys : List Value} (hg : o.guard = none) (ho : o.op = .binOp .eql t x y yt) (hE : EqT P t ks) (hx : ev F x = .agg xs.toArray) (hy : ev F y = .agg ys.toArray) (kx : xs.map tyv = ks) (ky : ys.map tyv = ks)
    (hk : WQ P n os l w K (updo F o.dst (.bool (vEqs xs ys)))) : WQ P n os (o :: l) w K F := by
  refine WQ.val hg (fun hok mm => ?_) hk
  generalize hw0 : w.drewN mm = w0
  clear hw0
  have e1 := okX_at (F := F) hok (x := x) (by simp [ho, Op.operands])
  have e2 := okX_at (F := F) hok (x := y) (by simp [ho, Op.operands])
  have h1 := run_equalIn_agg (P := P) w0 9999 t xs.toArray ys.toArray hE.und hE.held
  have h2 := run_eqFields (P := P) (w := w0) 9998 xs.toArray ys.toArray _ 0 ks xs ys hE.fs (by simp) (by simp) kx ky
  simp only [execOp, ho, e1, e2, hx, hy, Sem.run_bind, run_eqGuard_agg w0 _ _ _ _ _ _ hE.guard, run_eql_struct, h1, h2, Result.andThen_ok, Sem.run_pure]
theorem WQ.neS {o : Oper} {t yt : TypeId} {x y : Operand} {ks : List FK} {xs ys : List Value} (hg : o.guard = none) (ho : o.op = .binOp .neq t x y yt) (hE : EqT P t ks) (hx : ev F x = .agg xs.toArray) (hy : ev F y = .agg ys.toArray) (kx : xs.map tyv = ks) (ky : ys.map tyv = ks)
    (hk : WQ P n os l w K (updo F o.dst (.bool (!vEqs xs ys)))) : WQ P n os (o :: l) w K F := by
  refine WQ.val hg (fun hok mm => ?_) hk
  generalize hw0 : w.drewN mm = w0
  clear hw0
  have e1 := okX_at (F := F) hok (x := x) (by simp [ho, Op.operands])
  have e2 := okX_at (F := F) hok (x := y) (by simp [ho, Op.operands])
  have h1 := run_equalIn_agg (P := P) w0 9999 t xs.toArray ys.toArray hE.und hE.held
  have h2 := run_eqFields (P := P) (w := w0) 9998 xs.toArray ys.toArray _ 0 ks xs ys hE.fs (by simp) (by simp) kx ky
  simp only [execOp, ho, e1, e2, hx, hy, Sem.run_bind, run_eqGuard_agg w0 _ _ _ _ _ _ hE.guard, run_neq_struct, h1, h2, Result.andThen_ok, Sem.run_pure]
theorem WQ.ixs {o : Oper} {t : TypeId} {x y : Operand} {s : ByteArray} {kk : IntKind} {v : Int} (hg : o.guard = none) (ho : o.op = .index t x y) (k : Nat) {b : Int} (hT : mem T.strs t = true) (hx : ev F x = .string s) (hy : ev F y = .int kk v) (hv : v = k) (hb : (sb s)[k]? = some b)
    (hk : WQ P n os l w K (updo F o.dst (.int .u8 b))) : WQ P n os (o :: l) w K F := by
  subst hv
  have hu : P.underlying t = some .string := Tab.str hT
  refine WQ.val hg (fun hok mm => ?_) hk
  generalize hw0 : w.drewN mm = w0
  clear hw0
  have e1 := okX_at (F := F) hok (x := x) (by simp [ho, Op.operands])
  have e2 := okX_at (F := F) hok (x := y) (by simp [ho, Op.operands])
  simp only [sb, List.getElem?_map] at hb
  cases hq : s.data.toList[k]? with
  | none => simp [hq] at hb
  | some c =>
    simp only [hq, Option.map_some, Option.some.injEq] at hb
    have hs : s[k]? = some c := by
      have hlt := (List.getElem?_eq_some_iff.1 hq).1
      have hlt2 : k < s.size := by simpa using hlt
      have h3 : s[k] = c := (List.getElem?_eq_some_iff.1 hq).2
      rw [getElem?_pos s k hlt2, h3]
    subst hb
    simp [execOp, ho, e1, hx, e2, hy, Instr.index, asIntOf, run_underlying hu, hs]
theorem RQ.val {o : Oper} {v : Value} {d : Nat} (hg : o.guard = none) (hr : okO n o = true → ∀ m, (execOp (act n F).eval o).run P (w.drewN m) = .ok (.value v) (w.drewN m)) (hd : o.dst = some d) (hv : F d = v) : RQ P n os w F o :=
  ⟨fun _ h2 => by
    unfold wpQuiet
    rw [if_pos (by simp [Region.wanted, hg])]
    refine ⟨v, ?_, ?_⟩
    · rintro w' ⟨m, rfl⟩
      unfold Oper.quietAt
      rw [hr h2 m]
      exact ⟨rfl, rfl⟩
    · show _ = _
      rw [act_put, hd]
      show act n (upd F d v) = _
      rw [rebase hv]⟩
theorem RQ.ldF {o : Oper} {t : TypeId} {x : Operand} {b : Nat} {cs : Array Value} {t' : TypeId} (hg : o.guard = none) (ho : o.op = .load t x) (i : Nat) (hS : St g L w) (hi : L[i]? = some (cel b cs t')) (hx : ev F x = .pointer (some ⟨b, 0, none⟩)) (ht : AggT P t cs.size)
    {d : Nat} (hd : o.dst = some d) (hfd : F d = (.agg cs)) : RQ P n os w F o := by
  refine RQ.val hg (fun hok mm => ?_) hd hfd
  generalize hw0 : w.drewN mm = w0
  replace hS : St g L w0 := hw0 ▸ hS.drewN mm
  clear hw0
  have e1 := okX_at (F := F) hok (x := x) (by simp [ho, Op.operands])
  have hl := run_loadAgg (P := P) (w := w0) (b := b) (off := 0) (cs := cs.toList) ht (by simp) (fun j u hj => by rw [Nat.zero_add]; exact hS.ld i hi (by simpa using hj))
  simp only [execOp, ho, e1, hx, Instr.loadAt, Instr.sureAddr, Sem.run_bind, Sem.run_pure, Result.andThen_ok, hl, Array.toArray_toList]
theorem RQ.ldC {o : Oper} {t : TypeId} {x : Operand} {b off : Nat} (hg : o.guard = none) (ho : o.op = .load t x) (cs : List Value) (ht : AggT P t cs.length) (hx : ev F x = .pointer (some ⟨b, off, none⟩)) (hc : ∀ (j : Nat) (u : Value), cs[j]? = some u → w.cell? ⟨b, off + j, none⟩ = some u)
    {d : Nat} (hd : o.dst = some d) (hfd : F d = (.agg cs.toArray)) : RQ P n os w F o := by
  refine RQ.val hg (fun hok mm => ?_) hd hfd
  generalize hw0 : w.drewN mm = w0
  replace hc : ∀ (j : Nat) (u : Value), cs[j]? = some u → w0.cell? ⟨b, off + j, none⟩ = some u := by subst hw0; exact hc
  clear hw0
  have e1 := okX_at (F := F) hok (x := x) (by simp [ho, Op.operands])
  simp only [execOp, ho, e1, hx, Instr.loadAt, Instr.sureAddr, Sem.run_bind, Sem.run_pure, Result.andThen_ok, run_loadAgg ht rfl hc]
theorem RQ.ix {o : Oper} {t e : TypeId} {z : Array Value} {size bytes m c : Nat} {x y : Operand} {a : Option Addr} {kk : IntKind} {i : Int} (hg : o.guard = none) (ho : o.op = .indexAddr t x y) (k : Nat) (hE : Elem P t e z size bytes) (hx : ev F x = .slice a m c) (hy : ev F y = .int kk i) (hik : i = k) (hlt : k < m) (hA : IsA a)
    {d : Nat} (hd : o.dst = some d) (hfd : F d = (.pointer (some ⟨bo a, oo a + k * size, none⟩))) : RQ P n os w F o := by
  refine RQ.val hg (fun hok mm => ?_) hd hfd
  generalize hw0 : w.drewN mm = w0
  clear hw0
  have e1 := okX_at (F := F) hok (x := x) (by simp [ho, Op.operands])
  have e2 := okX_at (F := F) hok (x := y) (by simp [ho, Op.operands])
  obtain ⟨b, off, rfl⟩ := hA
  obtain ⟨info, zv, h1, h2, h3, h4, h5⟩ := hE.info
  subst hik
  have hr : (0 : Int) ≤ k ∧ (k : Int) < m := by omega
  have hadd : (⟨b, off, none⟩ : Addr).add (k * size) = ⟨b, off + k * size, none⟩ := by unfold Addr.add; split <;> simp_all
  simp only [execOp, ho, e1, hx, e2, hy, Instr.indexAt, asIntOf, Sem.run_bind, Sem.run_pure, Result.andThen_ok, run_underlying hE.und, hr, and_self, if_true]
  simp [sizeOf, typeInfo, h1, h4, hadd, bo, oo]
theorem RQ.build {o : Oper} {t : TypeId} {ps : List (Nat × Operand)} {pl : List (Nat × Nat × Bool)} {cs : List Value} (hg : o.guard = none) (ho : o.op = .build t ps.toArray) (hz : ZV P t z) (hf : lk T.flds t = some pl) (h : fillL (plF pl) z.toList (evP F ps) = some cs)
    {d : Nat} (hd : o.dst = some d) (hfd : F d = (.agg cs.toArray)) : RQ P n os w F o := by
  obtain ⟨i, zv, h1, h2, h3⟩ := hz
  obtain ⟨h4, fs, h5, h6⟩ := (Tab.parts (P := P) (T := T)).2.2.2.2.2.1 _ (lk_mem _ _ _ hf)
  refine RQ.val hg (fun hok mm => ?_) hd hfd
  generalize hw0 : w.drewN mm = w0
  clear hw0
  have hev := evP_act (F := F) (ps := ps) hok (fun p hp => by
    simp only [ho, Op.operands]
    exact List.mem_map.2 ⟨p, by simpa using hp, rfl⟩)
  have hpl : (fs.toList.mapM fun (f : Field) => (do Pure.pure (f.offset, ← sizeOf f.type) : Sem (Nat × Nat))).run P w0 = .ok (pl.map fun r => (r.1, r.2.1)) w0 := by
    refine run_mapM _ w0 _ _ (by simpa using h6) fun j f r hj hr => ?_
    rw [List.getElem?_map] at hr
    cases hq : pl[j]? with
    | none => simp [hq] at hr
    | some r0 =>
      simp only [hq, Option.map_some, Option.some.injEq] at hr
      have h7 := idxAll_spec pl 0 h4 j r0 hq
      simp only [Nat.zero_add, fieldB, h5] at h7
      have hj' : fs[j]? = some f := by simpa using hj
      simp only [hj', Bool.and_eq_true, beq_iff_eq] at h7
      obtain ⟨⟨⟨⟨q1, q2⟩, _⟩, _⟩, _⟩ := h7
      split at q2
      · rename_i info hinfo
        simp only [Sem.run_bind, run_sizeOf w0 ⟨info, hinfo, rfl⟩, Result.andThen_ok, Sem.run_pure, ← hr, q1]
        simp at q2; rw [q2]
      · cases q2
  have hfill := fill_eq (plF pl) (evP F ps) z.toList cs h
  have e0 : (fun i => ((pl.map fun r => (r.1, r.2.1)).toArray)[i]?) = plF pl := by
    funext i
    simp only [plF, nth_eq, List.getElem?_toArray, List.getElem?_map]
    cases pl[i]? <;> rfl
  have e1 : fs = fs.toList.toArray := by simp
  have e2 : (fs.mapM fun (f : Field) => (do Pure.pure (f.offset, ← sizeOf f.type) : Sem (Nat × Nat))).run P w0 = .ok (pl.map fun r => (r.1, r.2.1)).toArray w0 := by
    rw [e1, List.mapM_toArray]
    simp only [Sem.run_map, hpl, Result.andThen_ok]
  simp only [Array.toArray_toList] at hfill
  have hzv : (zeroValue t).run P w0 = .ok zv w0 := by simp [zeroValue, typeInfo, h1, h2]
  simp only [execOp, ho, Instr.build, Sem.run_bind, hzv, Sem.run_pure, Result.andThen_ok, run_underlying h5, h3, e2, e0, hev, hfill]
theorem RQ.eqS {o : Oper} {t yt : TypeId} {x y : Operand} {ks : List FK} {xs ys : List Value} (hg : o.guard = none) (ho : o.op = .binOp .eql t x y yt) (hE : EqT P t ks) (hx : ev F x = .agg xs.toArray) (hy : ev F y = .agg ys.toArray) (kx : xs.map tyv = ks) (ky : ys.map tyv = ks)
    {d : Nat} (hd : o.dst = some d) (hfd : F d = (.bool (vEqs xs ys))) : RQ P n os w F o := by
  refine RQ.val hg (fun hok mm => ?_) hd hfd
  generalize hw0 : w.drewN mm = w0
  clear hw0
  have e1 := okX_at (F := F) hok (x := x) (by simp [ho, Op.operands])
  have e2 := okX_at (F := F) hok (x := y) (by simp [ho, Op.operands])
  have h1 := run_equalIn_agg (P := P) w0 9999 t xs.toArray ys.toArray hE.und hE.held
  have h2 := run_eqFields (P := P) (w := w0) 9998 xs.toArray ys.toArray _ 0 ks xs ys hE.fs (by simp) (by simp) kx ky
  simp only [execOp, ho, e1, e2, hx, hy, Sem.run_bind, run_eqGuard_agg w0 _ _ _ _ _ _ hE.guard, run_eql_struct, h1, h2, Result.andThen_ok, Sem.run_pure]
theorem RQ.neS {o : Oper} {t yt : TypeId} {x y : Operand} {ks : List FK} {xs ys : List Value} (hg : o.guard = none) (ho : o.op = .binOp .neq t x y yt) (hE : EqT P t ks) (hx : ev F x = .agg xs.toArray) (hy : ev F y = .agg ys.toArray) (kx : xs.map tyv = ks) (ky : ys.map tyv = ks)
    {d : Nat} (hd : o.dst = some d) (hfd : F d = (.bool (!vEqs xs ys))) : RQ P n os w F o := by
  refine RQ.val hg (fun hok mm => ?_) hd hfd
  generalize hw0 : w.drewN mm = w0
  clear hw0
  have e1 := okX_at (F := F) hok (x := x) (by simp [ho, Op.operands])
  have e2 := okX_at (F := F) hok (x := y) (by simp [ho, Op.operands])
  have h1 := run_equalIn_agg (P := P) w0 9999 t xs.toArray ys.toArray hE.und hE.held
  have h2 := run_eqFields (P := P) (w := w0) 9998 xs.toArray ys.toArray _ 0 ks xs ys hE.fs (by simp) (by simp) kx ky
  simp only [execOp, ho, e1, e2, hx, hy, Sem.run_bind, run_eqGuard_agg w0 _ _ _ _ _ _ hE.guard, run_neq_struct, h1, h2, Result.andThen_ok, Sem.run_pure]
theorem RQ.ixs {o : Oper} {t : TypeId} {x y : Operand} {s : ByteArray} {kk : IntKind} {v : Int} (hg : o.guard = none) (ho : o.op = .index t x y) (k : Nat) {b : Int} (hT : mem T.strs t = true) (hx : ev F x = .string s) (hy : ev F y = .int kk v) (hv : v = k) (hb : (sb s)[k]? = some b)
    {d : Nat} (hd : o.dst = some d) (hfd : F d = (.int .u8 b)) : RQ P n os w F o := by
  subst hv
  have hu : P.underlying t = some .string := Tab.str hT
  refine RQ.val hg (fun hok mm => ?_) hd hfd
  generalize hw0 : w.drewN mm = w0
  clear hw0
  have e1 := okX_at (F := F) hok (x := x) (by simp [ho, Op.operands])
  have e2 := okX_at (F := F) hok (x := y) (by simp [ho, Op.operands])
  simp only [sb, List.getElem?_map] at hb
  cases hq : s.data.toList[k]? with
  | none => simp [hq] at hb
  | some c =>
    simp only [hq, Option.map_some, Option.some.injEq] at hb
    have hs : s[k]? = some c := by
      have hlt := (List.getElem?_eq_some_iff.1 hq).1
      have hlt2 : k < s.size := by simpa using hlt
      have h3 : s[k] = c := (List.getElem?_eq_some_iff.1 hq).2
      rw [getElem?_pos s k hlt2, h3]
    subst hb
    simp [execOp, ho, e1, hx, e2, hy, Instr.index, asIntOf, run_underlying hu, hs]
theorem St.part {b t off : Nat} {cs : Array Value} {sub : List Value} (h : St g L w) (i : Nat) (hi : L[i]? = some (cel b cs t)) (hs : (cs.toList.drop off).take sub.length = sub) : ∀ (j : Nat) (u : Value), sub[j]? = some u → w.cell? ⟨b, off + j, none⟩ = some u := fun j u hj => h.ld i hi (by
  have hlt := (List.getElem?_eq_some_iff.1 hj).1
  rw [← hs, List.getElem?_take_of_lt hlt, List.getElem?_drop] at hj
  simpa using hj)
end
section
variable {P : Program} {T : Tab} [hT : TabOk P T] {n : Nat} {os l : List Oper} {K : Kt} {F : Fm} {w : World}
theorem wanted_at (hos : okL n os = true) {o : Oper} {i d : Nat} {b v : Bool} (hg : o.guard = some (i, b)) (hs : gslot os i = some d) (hv : F d = .bool v) : Region.wanted o (yielded os.toArray (act n F).tmps) = (v == b) := by
  unfold Region.wanted
  simp only [hg]
  unfold gslot at hs
  rw [nth_eq] at hs
  cases hj : os[i]? with
  | none => simp [hj] at hs
  | some oj =>
    simp only [hj] at hs
    have hlt : d < n := by
      have h1 := okL_get os hos i oj hj
      simp only [okO, hs, okD, Bool.and_eq_true] at h1
      exact blt_iff.1 h1.2
    simp [yielded, hj, hs, act_get? n F d hlt, hv]
/-- an operation whose guard holds -/
theorem WL.ung {o : Oper} {i d : Nat} {b : Bool} (hg : o.guard = some (i, b)) (hs : gslot os i = some d) (hv : F d = .bool b) (h : WL P n os ({ o with guard := none } :: l) K F w) : WL P n os (o :: l) K F w :=
  ⟨fun h1 h2 => by
    have h3 := h.go h1 h2
    have hw := wanted_at (F := F) h1 hg hs hv
    unfold wpList at h3 ⊢
    rw [if_pos (by simp [Region.wanted])] at h3
    rw [if_pos (by rw [hw]; simp)]
    exact h3⟩
/-- an operation whose guard does not hold -/
theorem WL.skp {o : Oper} {i d : Nat} {b v : Bool} (hg : o.guard = some (i, b)) (hs : gslot os i = some d) (hv : F d = .bool v) (hne : (v == b) = false) (h : WL P n os l K (updo F o.dst undef) w) : WL P n os (o :: l) K F w :=
  ⟨fun h1 h2 => by
    obtain ⟨_, h4⟩ := okL_cons h2
    have hw := wanted_at (F := F) h1 hg hs hv
    unfold wpList
    rw [if_neg (by rw [hw, hne]; decide), act_put]
    exact h.go h1 h4⟩
theorem WQ.ung {K : Fm → Prop} {o : Oper} {i d : Nat} {b : Bool} (hg : o.guard = some (i, b)) (hs : gslot os i = some d) (hv : F d = .bool b) (h : WQ P n os ({ o with guard := none } :: l) w K F) : WQ P n os (o :: l) w K F :=
  ⟨fun h1 h2 => by
    have h3 := h.go h1 h2
    have hw := wanted_at (F := F) h1 hg hs hv
    unfold wpQuiet at h3 ⊢
    rw [if_pos (by simp [Region.wanted])] at h3
    rw [if_pos (by rw [hw]; simp)]
    exact h3⟩
theorem WQ.skp {K : Fm → Prop} {o : Oper} {i d : Nat} {b v : Bool} (hg : o.guard = some (i, b)) (hs : gslot os i = some d) (hv : F d = .bool v) (hne : (v == b) = false) (h : WQ P n os l w K (updo F o.dst undef)) : WQ P n os (o :: l) w K F :=
  ⟨fun h1 h2 => by
    obtain ⟨_, h4⟩ := okL_cons h2
    have hw := wanted_at (F := F) h1 hg hs hv
    unfold wpQuiet
    rw [if_neg (by rw [hw, hne]; decide), act_put]
    exact h.go h1 h4⟩
theorem RQ.ung {o : Oper} {i d : Nat} {b : Bool} (hg : o.guard = some (i, b)) (hs : gslot os i = some d) (hv : F d = .bool b) (h : RQ P n os w F { o with guard := none }) : RQ P n os w F o :=
  ⟨fun h1 h2 => by
    have h3 := h.go h1 h2
    have hw := wanted_at (F := F) h1 hg hs hv
    unfold wpQuiet at h3 ⊢
    rw [if_pos (by simp [Region.wanted])] at h3
    rw [if_pos (by rw [hw]; simp)]
    exact h3⟩
theorem RQ.skp {o : Oper} {i d t : Nat} {b v : Bool} (hg : o.guard = some (i, b)) (hs : gslot os i = some d) (hv : F d = .bool v) (hne : (v == b) = false) (hd : o.dst = some t) (hu : F t = undef) : RQ P n os w F o :=
  ⟨fun h1 _ => by
    have hw := wanted_at (F := F) h1 hg hs hv
    unfold wpQuiet
    rw [if_neg (by rw [hw, hne]; decide), act_put, hd]
    show _ = _
    show act n (upd F t undef) = _
    rw [rebase hu]⟩
end
end Go.V
