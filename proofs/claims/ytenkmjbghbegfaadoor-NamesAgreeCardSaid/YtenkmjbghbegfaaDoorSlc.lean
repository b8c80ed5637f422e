/-
  The engine, sixth part, no program: operations on slices.
  Conditions: none; every fact is proved from the library's own definitions.
-/
import Derived.Test.YtenkmjbghbegfaaDoorMem
namespace Go.V
open Go Go.RowKit

/-- room for n elements of so many bytes -/
def Rm (n bytes : Nat) : Prop := n ≤ maxLen ∧ n * bytes ≤ 140737488355328
theorem Rm.of {n bytes : Nat} (h : n ≤ 1000000000) (hb : bytes ≤ 1000) : Rm n bytes := by
  refine ⟨by unfold maxLen; omega, ?_⟩
  have := Nat.mul_le_mul h hb
  omega
/-- the elements of a slice can be read -/
structure Src (w : World) (size : Nat) (ms : List (List Value)) (a : Option Addr) : Prop where
  ok : OkE size ms
  rd : 0 < ms.length → IsA a ∧ ∀ (j : Nat) (u : Value), ms.flatten[j]? = some u → w.cell? ⟨bo a, oo a + j, none⟩ = some u

section
variable {P : Program} {T : Tab} [hT : TabOk P T] {n : Nat} {os l : List Oper} {K : Kt} {F : Fm} {w g : World} {L : List HP} {e size bytes c : Nat} {z : Array Value} {ls ms : List (List Value)} {a : Option Addr}

theorem St.srcS (h : St g L w) (i : Nat) (hi : L[i]? = some (Sh e size ls a c)) : Src w size ls a := by
  obtain ⟨o1, r, ⟨h1, h2, h3⟩, ho, hr⟩ := h.get i hi
  refine ⟨h1, fun hl => ?_⟩
  obtain ⟨b, off, cur, t, fz, rfl, q2, q3⟩ := h3 hl
  refine ⟨⟨b, off, rfl⟩, fun j u hu => ?_⟩
  rw [show bo (some ⟨b, off, none⟩) = b from rfl, show oo (some ⟨b, off, none⟩) = off from rfl, cell_of_row w b _ cur t fz (hr _ _ q2)]
  exact q3 j u hu
theorem St.srcO (h : St g L w) (i : Nat) (hi : L[i]? = some (Own e size ls a c)) : Src w size ls a := by
  obtain ⟨o1, r, ⟨h1, h2⟩, ho, hr⟩ := h.get i hi
  refine ⟨h1, fun hl => ?_⟩
  rcases h2 with ⟨_, _, rfl⟩ | ⟨b, cur, rfl, q2, q3, q4, q5, q6⟩
  · simp at hl
  · refine ⟨⟨b, 0, rfl⟩, fun j u hu => ?_⟩
    rw [show bo (some ⟨b, 0, none⟩) = b from rfl, show oo (some ⟨b, 0, none⟩) = 0 from rfl, cell_of_row w b _ cur e (0, 0) (ho _ _ q2), Nat.zero_add]
    rw [← q6, List.getElem?_take] at hu
    split at hu
    · simpa using hu
    · cases hu
theorem Src.nil : Src w size [] a := ⟨OkE.nil _, fun h => by simp at h⟩

/-- append(s, x..): the first grows by the elements of the second -/
theorem run_app {t ty : TypeId} {a2 : Option Addr} {c2 : Nat} (hE : Elem P t e z size bytes) (hS : St g (Own e size ls a c :: L) w) (hsrc : Src w size ms a2) (hr : Rm (ls.length + ms.length) bytes) :
    ∃ a' c' w', (Builtin.append_ #[t, t] ty #[.slice a ls.length c, .slice a2 ms.length c2]).run P w = .ok (.slice a' (ls.length + ms.length) c') w' ∧ St g (Own e size (ls ++ ms) a' c' :: L) w' := by
  obtain ⟨i, zv, i1, i2, i3, i4, i5⟩ := hE.info
  have hnew : ∀ (cap : Nat) (rest : Array Value), ls.length + ms.length ≤ cap → cap ≤ maxLen → rest.size = (cap - (ls.length + ms.length)) * size → OkE size ls →
      ∀ w1 : World, St g (Own e size ls a c :: L) w1 → St g (Own e size (ls ++ ms) (some ⟨w1.heap.size, 0, none⟩) cap :: L) (w1.alloc (.cells ((ls.flatten.toArray ++ ms.flatten.toArray) ++ rest) e)) := by
    intro cap rest h1 h2 h3 hok w1 hS1
    have h4 := (hS1.new (.cells ((ls.flatten.toArray ++ ms.flatten.toArray) ++ rest) e)).swap.tail
    refine h4.impl fun o r hb => ⟨hok.app hsrc.ok, .inr ⟨_, _, rfl, hb, by simpa using h1, h2, ?_, ?_⟩⟩
    · simp only [Array.size_append, List.size_toArray, flat_len _ _ hok.len, flat_len _ _ hsrc.ok.len, h3, ← Nat.add_mul]
      congr 1; omega
    · simp only [Array.toList_append, List.flatten_append, List.length_append]
      refine List.take_left' ?_
      simp [flat_len _ _ hok.len, flat_len _ _ hsrc.ok.len, Nat.add_mul]
  have hcapm : ∀ (w1 : World) (old : Nat), grownCap w1 (ls.length + ms.length) old e ≤ maxLen := fun w1 old => grownCap_le_maxLen w1 _ old e hr.1
  have hzc : ∀ k : Nat, (Builtin.zeroCells zv.cells k).size = k * size := fun k => by rw [size_zeroCells, i3, hE.zsz]
  have h63 : ls.length + ms.length ≤ 9223372036854775807 := by have := hr.1; simp only [maxLen] at this; omega
  obtain ⟨o1, r, hA, ho, hrw⟩ := hS.get 0 rfl
  obtain ⟨hok, hform⟩ := hA
  by_cases hm : ms.length = 0
  · have hms : ms = [] := List.eq_nil_of_length_eq_zero hm
    subst hms
    refine ⟨a, c, w, ?_, by simpa using hS⟩
    rcases hform with ⟨rfl, rfl, rfl⟩ | ⟨b, cur, rfl, q2, q3, q4, q5, q6⟩
    · cases a2 <;> simp [Builtin.append_, run_underlying hE.und, sizeOf, typeInfo, i1, Builtin.lenOf, Builtin.firstCells, loadCells, loadCellsFrom]
    · cases a2 <;> simp [Builtin.append_, run_underlying hE.und, sizeOf, typeInfo, i1, Builtin.lenOf, Builtin.firstCells, loadCells, loadCellsFrom, q3, storeCells]
  · obtain ⟨⟨b2, off2, rfl⟩, hcells⟩ := hsrc.rd (by omega)
    have hnews : ∀ (j : Nat) (v : Value), ms.flatten[j]? = some v → w.cell? ((⟨b2, off2, none⟩ : Addr).add j) = some v := fun j v hj => by
      rw [show (⟨b2, off2, none⟩ : Addr).add j = ⟨b2, off2 + j, none⟩ by unfold Addr.add; split <;> simp_all]; exact hcells j v hj
    have hml : ms.flatten.length = ms.length * i.size := by rw [flat_len _ _ hsrc.ok.len, i4]
    rcases hform with ⟨rfl, rfl, rfl⟩ | ⟨b, cur, rfl, q2, q3, q4, q5, q6⟩
    · have h48 : ms.length * i.bytes ≤ 281474976710656 := by have := hr.2; simp at this; rw [i5]; omega
      have h1 := run_append_nil (P := P) w t ty e i zv hE.und i1 i2 ⟨b2, off2, none⟩ ms.length c2 ms.flatten hml hnews (by omega) (by simp at h63; omega) h48
      refine ⟨_, _, _, by simpa using h1, ?_⟩
      have h2 := hnew (grownCap w ms.length 0 e) (Builtin.zeroCells zv.cells (grownCap w ms.length 0 e - ms.length)) (by simpa using grownCap_ge w ms.length 0 e) (by simpa using hcapm w 0) (by simp [hzc]) (OkE.nil _) w.drew hS.drew
      simpa using h2
    · by_cases hroom : ls.length + ms.length ≤ c
      · have hh := ho _ _ q2
        have hfit : ls.length * i.size + ms.flatten.length ≤ cur.size := by rw [hml, i4, q5, ← Nat.add_mul]; exact Nat.mul_le_mul_right _ hroom
        have h1 := run_append_room (P := P) w t ty e i hE.und i1 b ls.length c cur hh ⟨b2, off2, none⟩ ms.length c2 ms.flatten hml hnews hsrc.ok.one hroom hfit
        refine ⟨_, _, _, h1, ?_⟩
        refine hS.upd rfl rfl rfl (by simp [World.setRow]) fun o2 r2 hB hw2 _ _ => ?_
        obtain ⟨_, hB2⟩ := hB
        rcases hB2 with ⟨hx, _⟩ | ⟨b', cur', hx, p2, p3, p4, p5, p6⟩
        · cases hx
        · simp only [Option.some.injEq, Addr.mk.injEq, and_true] at hx
          subst hx
          have hcur : cur' = cur := by
            have := hw2 _ _ p2
            rw [hh] at this
            injection this with this; injection this with this _ _; exact this.symm
          subst hcur
          refine ⟨fun k => if k = b then some (.cells (cur'.toList.take (ls.length * i.size) ++ ms.flatten ++ cur'.toList.drop (ls.length * i.size + ms.flatten.length)).toArray e (0, 0)) else none, ⟨hok.app hsrc.ok, .inr ⟨b, _, rfl, if_pos rfl, by simpa using hroom, q4, ?_, ?_⟩⟩, fun k x hk => ?_, fun k hk => ?_, fun k hk hn => ?_⟩
          · simp only [List.size_toArray, List.length_append, List.length_take, List.length_drop, Array.length_toList]
            omega
          · rw [i4, q6, List.flatten_append]
            refine List.take_left' ?_
            simp [flat_len _ _ hok.len, flat_len _ _ hsrc.ok.len, Nat.add_mul]
          · simp only at hk
            split at hk
            · rename_i hkb; subst hkb
              simp only [Option.some.injEq] at hk; subst hk
              exact setRow_heap w _ cur' _ e _ hh
            · cases hk
          · simp only [ne_eq, ite_eq_right_iff, reduceCtorEq, imp_false, Classical.not_not] at hk
            subst hk
            exact .inl (by rw [p2]; simp)
          · refine setRow_other w b k _ fun e' => ?_
            rw [e', p2] at hn; cases hn
      · have holds : ∀ (j : Nat) (v : Value), ls.flatten[j]? = some v → w.cell? ((⟨b, 0, none⟩ : Addr).add j) = some v := fun j v hj => by
          rw [show (⟨b, 0, none⟩ : Addr).add j = ⟨b, j, none⟩ by unfold Addr.add; split <;> simp_all, cell_of_row w b j cur e (0, 0) (ho _ _ q2)]
          rw [← q6, List.getElem?_take] at hj
          split at hj
          · simpa using hj
          · cases hj
        have h1 := run_append_grow (P := P) w t ty e i zv hE.und i1 i2 ⟨b, 0, none⟩ ls.length c ls.flatten (by rw [flat_len _ _ hok.len, i4]) holds ⟨b2, off2, none⟩ ms.length c2 ms.flatten hml hnews (by omega) (by omega) (growslice_fits (by omega) (by rw [i5]; exact hr.2))
        refine ⟨_, _, _, h1, ?_⟩
        exact hnew (grownCap w (ls.length + ms.length) c e) _ (grownCap_ge w _ c e) (hcapm w c) (hzc _) hok w.drew hS.drew

theorem WL.app {o : Oper} {t : TypeId} {s x : Operand} {a2 : Option Addr} {c2 : Nat} (hg : o.guard = none) (ho : o.op = .call { callee := .builtin .append, args := #[s, x], argTypes := #[t, t] }) (i : Nat) (rs : List (List Value)) (hE : Elem P t e z size bytes) (hS : St g L w) (hi : L[i]? = some (Own e size ls a c)) (hsrc : Src w size ms a2) (hrs : ls ++ ms = rs) (hr : Rm rs.length bytes)
    (hs : ev F s = .slice a ls.length c) (hx : ev F x = .slice a2 ms.length c2)
    (hk : ∀ a' c' w', St g (L.set i (Own e size rs a' c')) w' → WL P n os l K (updo F o.dst (.slice a' rs.length c')) w') : WL P n os (o :: l) K F w := by
  subst hrs
  rw [List.length_append] at hr
  obtain ⟨a', c', w', hrun, hS'⟩ := run_app (ty := o.type) (c2 := c2) hE (hS.at_ i hi) hsrc hr
  have hk' := hk a' c' w' (hS'.back i hi)
  rw [List.length_append] at hk'
  refine WL.val hg (fun hok => ?_) hk'
  have e1 := okX_at (F := F) hok (x := s) (by simp [ho, Op.operands, Call.operands])
  have e2 := okX_at (F := F) hok (x := x) (by simp [ho, Op.operands, Call.operands])
  simp only [execOp, ho, resolve, invoke, builtin, Sem.run_bind, Sem.run_pure, Result.andThen_ok, List.map_toArray, List.map_cons, List.map_nil, e1, e2, hs, hx, hrun]

/-! ### composite literals -/
def splL : List Value → Nat → List Value → List Value
  | cs, 0, [] => cs
  | [], _, _ => []
  | _ :: cs, 0, v :: vs => v :: splL cs 0 vs
  | c :: cs, k + 1, vs => c :: splL cs k vs
theorem splL_eq : ∀ (cs : List Value) (off : Nat) (vs : List Value), off + vs.length ≤ cs.length → splL cs off vs = cs.take off ++ vs ++ cs.drop (off + vs.length)
  | cs, 0, [], _ => by simp [splL]
  | [], 0, v :: vs, h => by simp at h
  | [], k + 1, vs, h => by simp at h
  | c :: cs, 0, v :: vs, h => by
    have := splL_eq cs 0 vs (by simp at h ⊢; omega)
    simp only [splL, this, List.take_zero, List.nil_append, List.length_cons, Nat.zero_add, List.drop_succ_cons, List.cons_append]
  | c :: cs, k + 1, vs, h => by
    have := splL_eq cs k vs (by simp at h ⊢; omega)
    simp only [splL, this, List.take_succ_cons, List.cons_append]
    rw [show k + 1 + vs.length = (k + vs.length) + 1 by omega, List.drop_succ_cons]
theorem foldl_spl : ∀ (vs : List Value) (k off : Nat) (cells : Array Value), off + k + vs.length ≤ cells.size →
    (vs.zipIdx k).foldl (fun (cs : Array Value) (x : Value × Nat) => cs.setIfInBounds (off + x.2) x.1) cells = (splL cells.toList (off + k) vs).toArray
  | [], k, off, cells, h => by
    rw [splL_eq _ _ _ (by simpa using h)]
    simp
  | v :: vs, k, off, cells, h => by
    simp only [List.length_cons] at h
    rw [List.zipIdx_cons, List.foldl_cons, foldl_spl vs (k + 1) off _ (by simp; omega), splL_eq _ _ _ (by simp; omega), splL_eq _ _ _ (by simp; omega)]
    congr 1
    simp only [Array.toList_setIfInBounds, List.length_cons]
    rw [List.set_eq_take_append_cons_drop, if_pos (by simp; omega)]
    have h1 : (cells.toList.take (off + k)).length = off + k := by simp; omega
    have h2 : (cells.toList.take (off + k) ++ v :: cells.toList.drop (off + k + 1)).take (off + (k + 1)) = cells.toList.take (off + k) ++ [v] := by
      rw [show off + (k + 1) = (cells.toList.take (off + k)).length + 1 by omega, List.take_length_add_append]; simp
    have h3 : (cells.toList.take (off + k) ++ v :: cells.toList.drop (off + k + 1)).drop (off + (k + 1) + vs.length) = cells.toList.drop (off + k + (vs.length + 1)) := by
      rw [show off + (k + 1) + vs.length = (cells.toList.take (off + k)).length + (vs.length + 1) by omega, List.drop_length_add_append, List.drop_succ_cons, List.drop_drop]
      congr 1; omega
    rw [h2, h3]; simp
def fillL (pl : Nat → Option (Nat × Nat)) : List Value → List (Nat × Value) → Option (List Value)
  | cs, [] => some cs
  | cs, (i, v) :: r => match pl i with
    | some (off, sz) => bif Nat.beq v.cells.toList.length sz && Nat.ble (off + sz) cs.length then fillL pl (splL cs off v.cells.toList) r else none
    | none => none
theorem fill_eq (pl : Nat → Option (Nat × Nat)) : ∀ (parts : List (Nat × Value)) (cs cs' : List Value), fillL pl cs parts = some cs' → Instr.fill pl cs.toArray parts = some cs'.toArray
  | [], cs, cs', h => by simp [fillL] at h; subst h; rfl
  | (i, v) :: r, cs, cs', h => by
    simp only [fillL] at h
    cases hp : pl i with
    | none => simp [hp] at h
    | some q =>
      obtain ⟨off, sz⟩ := q
      simp only [hp] at h
      cases hb : (Nat.beq v.cells.toList.length sz && Nat.ble (off + sz) cs.length) with
      | false => rw [hb] at h; simp at h
      | true =>
        simp only [hb, cond_true] at h
        simp only [Bool.and_eq_true] at hb
        have h1 := Nat.eq_of_beq_eq_true hb.1
        have h2 := Nat.le_of_ble_eq_true hb.2
        have h1' : v.cells.size = sz := by simpa using h1
        simp only [Instr.fill, hp]
        rw [if_neg (by simp [h1']; omega)]
        have h3 := foldl_spl v.cells.toList 0 off cs.toArray (by simp; omega)
        have h4 : v.cells.zipIdx.foldl (fun cs (x : Value × Nat) => cs.setIfInBounds (off + x.2) x.1) cs.toArray = (splL cs off v.cells.toList).toArray := by
          rw [← Array.foldl_toList, Array.toList_zipIdx]
          simpa using h3
        rw [h4]
        exact fill_eq pl r _ _ h
def evP (F : Fm) : List (Nat × Operand) → List (Nat × Value)
  | [] => []
  | (i, x) :: r => (i, ev F x) :: evP F r
theorem evP_eq (F : Fm) : ∀ l, evP F l = l.map fun p => (p.1, ev F p.2)
  | [] => rfl
  | (i, x) :: r => by simp [evP, evP_eq F r]
def plF (pl : List (Nat × Nat × Bool)) (i : Nat) : Option (Nat × Nat) := match nth pl i with | some r => some (r.1, r.2.1) | none => none
theorem evP_act {o : Oper} {ps : List (Nat × Operand)} (hok : okO n o = true) (h : ∀ p ∈ ps, p.2 ∈ o.op.operands.toList) : (ps.toArray.map fun p => (p.1, (act n F).eval p.2)).toList = evP F ps := by
  rw [evP_eq]
  simp only [List.map_toArray]
  refine List.map_congr_left fun p hp => ?_
  rw [okX_at (F := F) hok (h p hp)]
/-- T{..}, a struct -/
theorem WL.build {o : Oper} {t : TypeId} {ps : List (Nat × Operand)} {pl : List (Nat × Nat × Bool)} {cs : List Value} (hg : o.guard = none) (ho : o.op = .build t ps.toArray) (hz : ZV P t z) (hf : lk T.flds t = some pl) (h : fillL (plF pl) z.toList (evP F ps) = some cs)
    (hk : WL P n os l K (updo F o.dst (.agg cs.toArray)) w) : WL P n os (o :: l) K F w := by
  obtain ⟨i, zv, h1, h2, h3⟩ := hz
  obtain ⟨h4, fs, h5, h6⟩ := (Tab.parts (P := P) (T := T)).2.2.2.2.2.1 _ (lk_mem _ _ _ hf)
  refine WL.val hg (fun hok => ?_) hk
  have hev := evP_act (F := F) (ps := ps) hok (fun p hp => by
    simp only [ho, Op.operands]
    exact List.mem_map.2 ⟨p, by simpa using hp, rfl⟩)
  have hpl : (fs.toList.mapM fun (f : Field) => (do pure (f.offset, ← sizeOf f.type) : Sem (Nat × Nat))).run P w = .ok (pl.map fun r => (r.1, r.2.1)) w := by
    refine run_mapM _ w _ _ (by simpa using h6) fun j f r hj hr => ?_
    rw [List.getElem?_map] at hr
    cases hq : pl[j]? with
    | none => simp [hq] at hr
    | some r0 =>
      simp only [hq, Option.map_some, Option.some.injEq] at hr
      have h7 := idxAll_spec pl 0 h4 j r0 hq
      simp only [Nat.zero_add, fieldB, h5] at h7
      have hj' : fs[j]? = some f := by simpa using hj
      simp only [hj', Bool.and_eq_true, beq_iff_eq] at h7
      obtain ⟨⟨⟨⟨q1, q2⟩, _⟩, _⟩, _⟩ := h7
      split at q2
      · rename_i info hinfo
        simp only [Sem.run_bind, run_sizeOf w ⟨info, hinfo, rfl⟩, Result.andThen_ok, Sem.run_pure, ← hr, q1]
        simp at q2; rw [q2]
      · cases q2
  have hfill := fill_eq (plF pl) (evP F ps) z.toList cs h
  have e0 : (fun i => ((pl.map fun r => (r.1, r.2.1)).toArray)[i]?) = plF pl := by
    funext i
    simp only [plF, nth_eq, List.getElem?_toArray, List.getElem?_map]
    cases pl[i]? <;> rfl
  have e1 : fs = fs.toList.toArray := by simp
  have e2 : (fs.mapM fun (f : Field) => (do pure (f.offset, ← sizeOf f.type) : Sem (Nat × Nat))).run P w = .ok (pl.map fun r => (r.1, r.2.1)).toArray w := by
    rw [e1, List.mapM_toArray]
    simp only [Sem.run_map, hpl, Result.andThen_ok]
  simp only [Array.toArray_toList] at hfill
  have hzv : (zeroValue t).run P w = .ok zv w := by simp [zeroValue, typeInfo, h1, h2]
  simp only [execOp, ho, Instr.build, Sem.run_bind, hzv, Sem.run_pure, Result.andThen_ok, run_underlying h5, h3, e2, e0, hev, hfill]
/-- []T{x, ..} -/
def partsOk (F : Fm) : Nat → List (Nat × Operand) → List (List Value) → Prop
  | _, [], [] => True
  | k, [(i, x)], [q] => i = k ∧ (ev F x).cells.toList = q
  | k, (i, x) :: r, q :: ls => i = k ∧ (ev F x).cells.toList = q ∧ partsOk F (k + 1) r ls
  | _, _, _ => False
theorem partsOk_cons {k i : Nat} {x : Operand} {r : List (Nat × Operand)} {q : List Value} {ls : List (List Value)} (h : partsOk F k ((i, x) :: r) (q :: ls)) : i = k ∧ (ev F x).cells.toList = q ∧ partsOk F (k + 1) r ls := by
  cases r with
  | nil => cases ls with
    | nil => exact ⟨h.1, h.2, trivial⟩
    | cons => exact h
  | cons => exact h
theorem fill_parts (hsz : 0 < size) : ∀ (ps : List (Nat × Operand)) (ls : List (List Value)) (k : Nat) (pre post : List Value), partsOk F k ps ls → OkE size ls → pre.length = k * size → post.length = ls.length * size →
    fillL (fun i => some (i * size, size)) (pre ++ post) (evP F ps) = some (pre ++ ls.flatten)
  | [], [], k, pre, post, _, _, _, hp => by
    have : post = [] := List.eq_nil_of_length_eq_zero (by simpa using hp)
    subst this; simp [evP, fillL]
  | [], _ :: _, _, _, _, h, _, _, _ => by simp [partsOk] at h
  | (i, x) :: r, [], _, _, _, h, _, _, _ => by cases r <;> simp [partsOk] at h
  | (i, x) :: r, q :: ls, k, pre, post, h, hok, hpre, hpost => by
    obtain ⟨rfl, hq, hr⟩ := partsOk_cons h
    have hql : q.length = size := (hok q (by simp)).1
    have hle : i * size + size ≤ (pre ++ post).length := by simp [hpre, hpost, Nat.add_mul]
    have hb : (Nat.beq (ev F x).cells.toList.length size && Nat.ble (i * size + size) (pre ++ post).length) = true := by
      rw [hq, hql]; simp only [Nat.beq_refl, Bool.true_and]; exact Nat.ble_eq_true_of_le hle
    simp only [evP, fillL]
    rw [hb, cond_true, hq]
    rw [splL_eq _ _ _ (by rw [hql]; exact hle), hql]
    have h1 : (pre ++ post).take (i * size) = pre := List.take_left' hpre
    have h2 : (pre ++ post).drop (i * size + size) = post.drop size := by rw [← hpre, List.drop_length_add_append]
    rw [h1, h2]
    have h3 := fill_parts hsz r ls (i + 1) (pre ++ q) (post.drop size) hr (fun y hy => hok y (by simp [hy])) (by simp [hpre, hql, Nat.add_mul]) (by simp [hpost, Nat.add_mul])
    rw [h3]; simp
theorem WL.lit {o : Oper} {t : TypeId} {m : Nat} {ps : List (Nat × Operand)} (hg : o.guard = none) (ho : o.op = .buildSlice t m ps.toArray) (ls : List (List Value)) (hE : Elem P t e z size bytes) (hS : St g L w) (h : partsOk F 0 ps ls) (hls : OkE size ls) (hm : ls.length = m) (hm2 : m * size ≤ 16777216)
    (hk : ∀ b w', St g (Own e size ls (some ⟨b, 0, none⟩) ls.length :: L) w' → WL P n os l K (updo F o.dst (.slice (some ⟨b, 0, none⟩) ls.length ls.length)) w') : WL P n os (o :: l) K F w := by
  subst hm
  obtain ⟨i, zv, i1, i2, i3, i4, i5⟩ := hE.info
  have hS' : St g (Own e size ls (some ⟨w.heap.size, 0, none⟩) ls.length :: L) (w.alloc (.cells ls.flatten.toArray e)) := (hS.new (.cells ls.flatten.toArray e)).impl fun o r hb =>
    ⟨hls, .inr ⟨_, _, rfl, hb, Nat.le_refl _, by
      have := Nat.mul_le_mul_left ls.length hE.pos
      unfold maxLen; omega, by simp [flat_len _ _ hls.len], List.take_of_length_le (by rw [flat_len _ _ hls.len]; exact Nat.le_refl _)⟩⟩
  refine WL.val hg (fun hok => ?_) (hk w.heap.size _ hS')
  have hev := evP_act (F := F) (ps := ps) hok (fun p hp => by
    simp only [ho, Op.operands]
    exact List.mem_map.2 ⟨p, by simpa using hp, rfl⟩)
  have hsz : (sizeOf e).run P w = .ok size w := run_sizeOf w ⟨i, i1, i4⟩
  have hzv : (zeroValue e).run P w = .ok zv w := by simp [zeroValue, typeInfo, i1, i2]
  have hf : ∀ A : Array Value, A.size = ls.length * size → Instr.fill (fun i => some (i * size, size)) A (evP F ps) = some ls.flatten.toArray := fun A hA => by
    have := fill_eq _ _ _ _ (fill_parts (F := F) hE.pos ps ls 0 [] A.toList h hls (by simp) (by simpa using hA))
    simpa using this
  have hnot : ¬ (ls.length * size > 2 ^ 24) := by omega
  simp only [execOp, ho, Instr.buildSlice, Sem.run_bind, run_underlying hE.und, Result.andThen_ok, hsz, hnot, if_false, hev]
  split
  · simp only [Sem.run_bind, Sem.run_pure, Result.andThen_ok]
    rw [hf _ (by simp)]
    rfl
  · simp only [Sem.run_bind, hzv, Sem.run_pure, Result.andThen_ok]
    rw [hf _ (by simp)]
    rfl
end
end Go.V
