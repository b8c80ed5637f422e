/-
  The engine, ninth part, no program: range over a string, stores into elements, lists of elements of more cells.
  Conditions: none; every fact is proved from the library's own definitions.
-/
import Derived.Test.YtenkmjbghbegfaaDoorStr
import Derived.Laws.RangeString
namespace Go.V
open Go Go.RowKit

section
variable {P : Program} {T : Tab} [hT : TabOk P T] {n : Nat} {os l : List Oper} {K : Kt} {F : Fm} {w g : World} {L : List HP} {e size bytes c : Nat} {z : Array Value} {ls ms : List (List Value)} {a : Option Addr}

/-! ### an object of its own, written -/
theorem St.setObj {b : Nat} {ob ob' : Obj} (h : St g (blk b ob :: L) w) : St g (blk b ob' :: L) { w with heap := w.heap.setIfInBounds b ob' } := by
  refine h.upd rfl rfl rfl (by simp) fun o1 r hA hw _ _ => ⟨fun k => if k = b then some ob' else none, by simp [blk], fun k x hx => ?_, fun k hk => ?_, fun k hk hn => ?_⟩
  · simp only at hx
    split at hx
    · rename_i hk; subst hk
      simp only [Option.some.injEq] at hx; subst hx
      have h1 := hw _ _ hA
      have h2 : k < w.heap.size := (Array.getElem?_eq_some_iff.1 h1).1
      simp [h2]
    · cases hx
  · simp only [ne_eq, ite_eq_right_iff, reduceCtorEq, imp_false, Classical.not_not] at hk
    subst hk
    exact .inl (by rw [show o1 k = some ob from hA]; simp)
  · have : b ≠ k := fun e => by
      have : o1 k = some ob := by rw [← e]; exact hA
      rw [hn] at this; cases this
    exact Array.getElem?_setIfInBounds_ne this

/-! ### range over a string of bytes below 128 -/
def nx (l : List Int) (k : Nat) : Value := if k < l.length then .tuple #[.bool true, .int .i64 k, .int .i32 (l.getD k 0)] else .tuple #[.bool false]
theorem nx_in {l : List Int} {k : Nat} (h : k < l.length) : nx l k = .tuple #[.bool true, .int .i64 k, .int .i32 (l.getD k 0)] := if_pos h
theorem nx_0 (l : List Int) (k : Nat) : ∃ vs, nx l k = .tuple vs ∧ vs[0]? = some (.bool (decide (k < l.length))) := by
  unfold nx; split <;> rename_i h <;> exact ⟨_, rfl, by simp [h]⟩
def As7 (l : List Int) : Prop := ∀ x ∈ l, 0 ≤ x ∧ x < 128
theorem mkS_size (l : List Int) : (mkS l).size = l.length := by simp [mkS, ByteArray.size]
theorem WL.rng {o : Oper} {t : TypeId} {x : Operand} {s : ByteArray} (hg : o.guard = none) (ho : o.op = .range t x) (hT : mem T.strs t = true) (hS : St g L w) (hx : ev F x = .string s)
    (hk : ∀ b w', St g (blk b (.stringIter s 0) :: L) w' → WL P n os l K (updo F o.dst (.pointer (some ⟨b, 0, none⟩))) w') : WL P n os (o :: l) K F w := by
  have hu : P.underlying t = some .string := Tab.str hT
  refine WL.val hg (fun hok => ?_) (hk w.heap.size (w.alloc (.stringIter s 0)) (hS.new _))
  have e := okX_at (F := F) hok (x := x) (by simp [ho, Op.operands])
  simp only [execOp, ho, e, hx, Sem.run_bind, run_range_string w t s hu, Result.andThen_ok, Sem.run_pure]
  rfl
theorem mkS_at {l : List Int} (hl : As7 l) {k : Nat} (h : k < l.length) (h' : k < (mkS l).size) : ((mkS l)[k]'h').toNat = (l.getD k 0).toNat ∧ ((mkS l)[k]'h').toNat < 128 := by
  have h1 : (mkS l)[k]'h' = UInt8.ofNat (l[k]).toNat := by
    show (mkS l).data[k]'h' = _
    simp [mkS]
  have h2 := hl _ (List.getElem_mem h)
  have h3 : (UInt8.ofNat (l[k]).toNat).toNat = (l[k]).toNat := by
    rw [UInt8.toNat_ofNat']
    exact Nat.mod_eq_of_lt (by omega)
  rw [h1, h3, List.getD_eq_getElem?_getD, List.getElem?_eq_getElem h]
  exact ⟨rfl, by omega⟩
/-- the next letter, and whether there was one -/
theorem WL.nx {o o2 : Oper} {it y : Operand} {d d2 b k : Nat} {xs : List Int} (hg : o.guard = none) (ho : o.op = .next it true) (hd : o.dst = some d) (hg2 : o2.guard = none) (ho2 : o2.op = .extract y 0) (hy : y = .tmp d) (hd2 : o2.dst = some d2)
    (i : Nat) (hl : As7 xs) (hS : St g L w) (hi : L[i]? = some (blk b (.stringIter (mkS xs) k))) (hx : ev F it = .pointer (some ⟨b, 0, none⟩))
    (hk : ∀ w', St g (L.set i (blk b (.stringIter (mkS xs) (if k < xs.length then k + 1 else k)))) w' → WL P n os l K (upd (upd F d (Go.V.nx xs k)) d2 (.bool (decide (k < xs.length)))) w') : WL P n os (o :: o2 :: l) K F w := by
  have hh := hS.heap i hi
  have key : ∃ w', ((Instr.next (.pointer (some ⟨b, 0, none⟩)) true o.type).run P w) = .ok (Go.V.nx xs k) w' ∧ St g (L.set i (blk b (.stringIter (mkS xs) (if k < xs.length then k + 1 else k)))) w' := by
    by_cases hlt : k < xs.length
    · have h1 : k < (mkS xs).size := by rw [mkS_size]; exact hlt
      obtain ⟨h2, h3⟩ := mkS_at hl hlt h1
      have h0 : 0 ≤ xs.getD k 0 := by
        rw [List.getD_eq_getElem?_getD, List.getElem?_eq_getElem hlt]; exact (hl _ (List.getElem_mem hlt)).1
      refine ⟨{ w with heap := w.heap.setIfInBounds b (.stringIter (mkS xs) (k + 1)) }, ?_, ?_⟩
      · simp only [Instr.next, Sem.run_bind, getObj, Go.setObj, Sem.run, hh, Result.andThen_ok, h1, if_true, decode_ascii _ _ h1 h3]
        simp only [nx_in hlt, goInt, h2, Int.toNat_of_nonneg h0]
        rfl
      · rw [if_pos hlt]; exact (St.setObj (hS.at_ i hi)).back i hi
    · have h1 : ¬ k < (mkS xs).size := by rw [mkS_size]; exact hlt
      refine ⟨w, ?_, ?_⟩
      · simp only [Instr.next, Sem.run_bind, getObj, Sem.run, hh, Result.andThen_ok, h1, if_false, Go.V.nx, hlt]
        rfl
      · rw [if_neg hlt]
        have : L.set i (blk b (.stringIter (mkS xs) k)) = L := by
          obtain ⟨q1, q2⟩ := List.getElem?_eq_some_iff.1 hi
          rw [← q2]; exact List.set_getElem_self _
        rw [this]; exact hS
  obtain ⟨w', hr, hS'⟩ := key
  refine WL.val (v := Go.V.nx xs k) (w' := w') hg (fun hok => ?_) ?_
  · have e := okX_at (F := F) hok (x := it) (by simp [ho, Op.operands])
    simp only [execOp, ho, e, hx, Sem.run_bind, hr, Result.andThen_ok, Sem.run_pure]
  · rw [hd]
    refine WL.val (v := .bool (decide (k < xs.length))) (w' := w') hg2 (fun hok => ?_) (by rw [hd2]; exact hk w' hS')
    have e := okX_at (F := upd F d (Go.V.nx xs k)) hok (x := y) (by simp [ho2, Op.operands])
    obtain ⟨vs, q1, q2⟩ := nx_0 xs k
    have e2 : ev (upd F d (Go.V.nx xs k)) y = Go.V.nx xs k := by rw [hy]; simp [ev, upd]
    have e3 := (e.trans e2).trans q1
    simp only [execOp, ho2, updo, e3]
    simp [Instr.extract, q2]

/-! ### a store into an element -/
theorem flat_set : ∀ (ls : List (List Value)) (size : Nat), (∀ x ∈ ls, x.length = size) → ∀ (k : Nat) (cs : List Value) (j : Nat) (v : Value), ls[k]? = some cs → j < cs.length → (ls.set k (cs.set j v)).flatten = ls.flatten.set (k * size + j) v
  | [], _, _, k, cs, j, v, hk, _ => by simp at hk
  | x :: xs, size, h, 0, cs, j, v, hk, hj => by
    simp only [List.getElem?_cons_zero, Option.some.injEq] at hk; subst hk
    simp [List.set_append_left _ _ hj]
  | x :: xs, size, h, k + 1, cs, j, v, hk, hj => by
    have h1 := h x (List.mem_cons_self ..)
    simp only [List.getElem?_cons_succ] at hk
    have := flat_set xs size (fun y hy => h y (List.mem_cons_of_mem _ hy)) k cs j v hk hj
    simp only [List.set_cons_succ, List.flatten_cons, this]
    rw [List.set_append_right _ _ (by rw [h1, Nat.succ_mul]; omega)]
    congr 2
    rw [h1, Nat.succ_mul]; omega
theorem St.setE {k j : Nat} {cs : List Value} {v : Value} (h : St g (Own e size ls a c :: L) w) (hk : ls[k]? = some cs) (hj : j < cs.length) (hv : v.oneCell' = true) :
    St g (Own e size (ls.set k (cs.set j v)) a c :: L) (w.setCell ⟨bo a, oo a + k * size + j, none⟩ v) := by
  refine h.upd rfl rfl rfl (by simp [World.setCell]) fun o1 r hA hw _ _ => ?_
  obtain ⟨hok, hA⟩ := hA
  have hkl : k < ls.length := (List.getElem?_eq_some_iff.1 hk).1
  rcases hA with ⟨_, _, h3⟩ | ⟨b, cur, rfl, h2, h3, h4, h5, h6⟩
  · subst h3; simp at hkl
  · have hok' : OkE size (ls.set k (cs.set j v)) := fun x hx => by
      rcases List.mem_or_eq_of_mem_set hx with hx | rfl
      · exact hok x hx
      · have := hok cs (List.mem_of_getElem? hk)
        refine ⟨by simpa using this.1, fun u hu => ?_⟩
        rcases List.mem_or_eq_of_mem_set hu with hu | rfl
        · exact this.2 u hu
        · exact hv
    refine ⟨fun q => if q = b then some (.cells (cur.setIfInBounds (k * size + j) v) e (0, 0)) else none, ⟨hok', .inr ⟨b, cur.setIfInBounds (k * size + j) v, rfl, by simp, by simpa using h3, h4, by simpa using h5, ?_⟩⟩, fun q x hx => ?_, fun q hq => ?_, fun q hq hn => ?_⟩
    · rw [List.length_set, Array.toList_setIfInBounds, List.take_set, h6, flat_set ls size hok.len k cs j v hk hj]
    · simp only at hx
      split at hx
      · rename_i hq; subst hq; simp only [Option.some.injEq] at hx; subst hx
        have := heap_setCell_same w q (k * size + j) cur e v (hw _ _ h2)
        simpa [bo, oo] using this
      · cases hx
    · simp only [ne_eq, ite_eq_right_iff, reduceCtorEq, imp_false, Classical.not_not] at hq
      subst hq
      exact .inl (by rw [h2]; simp)
    · refine Below.heap_setCell w _ v q fun eq => ?_
      have : o1 q = some (.cells cur e (0, 0)) := by rw [eq]; exact h2
      rw [hn] at this; cases this
theorem St.ownRow {k : Nat} {cs : List Value} (h : St g L w) (i : Nat) (hi : L[i]? = some (Own e size ls a c)) (hk : ls[k]? = some cs) : ∃ b cur, a = some ⟨b, 0, none⟩ ∧ w.heap[b]? = some (.cells cur e (0, 0)) ∧ ∀ j, j < cs.length → (k * size + j) < cur.size := by
  obtain ⟨o1, r, hA, ho, hr⟩ := h.get i hi
  obtain ⟨hok, hA⟩ := hA
  have hkl : k < ls.length := (List.getElem?_eq_some_iff.1 hk).1
  rcases hA with ⟨_, _, h3⟩ | ⟨b, cur, rfl, h2, h3, h4, h5, h6⟩
  · subst h3; simp at hkl
  · refine ⟨b, cur, rfl, ho _ _ h2, fun j hj => ?_⟩
    have := (hok cs (List.mem_of_getElem? hk)).1
    rw [h5]
    calc k * size + j < k * size + size := by omega
      _ = (k + 1) * size := by rw [Nat.succ_mul]
      _ ≤ c * size := Nat.mul_le_mul_right _ (by omega)
/-- l[k].f = v -/
theorem WL.stE {o : Oper} {t : TypeId} {x y : Operand} {v : Value} (hg : o.guard = none) (hd : o.dst = none) (ho : o.op = .store t x y) (i k j : Nat) (cs : List Value) (ls' : List (List Value)) (hS : St g L w) (hi : L[i]? = some (Own e size ls a c)) (hks : ls[k]? = some cs) (hx : ev F x = .pointer (some ⟨bo a, oo a + k * size + j, none⟩)) (hv : ev F y = v)
    (h1 : v.oneCell' = true) (hj : Nat.blt j cs.length = true) (ht : mem T.ones t = true) (hls : ls.set k (cs.set j v) = ls') (hk : ∀ w', St g (L.set i (Own e size ls' a c)) w' → WL P n os l K F w') : WL P n os (o :: l) K F w := by
  subst hls
  have hj := blt_iff.1 hj
  have hcs : v.cells = #[v] := by cases v <;> simp [Value.oneCell'] at h1 <;> rfl
  obtain ⟨b, cur, rfl, hh, hlt⟩ := hS.ownRow i hi hks
  have hS' := ((hS.at_ i hi).setE hks hj h1).back i hi
  refine WL.unit hg hd (fun hok => ?_) (hk _ hS')
  have e1 := okX_at (F := F) hok (x := x) (by simp [ho, Op.operands])
  have e2 := okX_at (F := F) hok (x := y) (by simp [ho, Op.operands])
  obtain ⟨_, _, h3⟩ := Tab.one (P := P) ht
  have h4 := hlt j hj
  simp only [bo, oo, Nat.zero_add] at hx ⊢
  have hcell : w.cell? ⟨b, k * size + j, none⟩ = some cur[k * size + j] := by rw [cell_of_row w b _ cur e (0, 0) hh]; simp [h4]
  have hst : (storeVar t ⟨b, k * size + j, none⟩ v).run P w = .ok () (w.setCell ⟨b, k * size + j, none⟩ v) := by
    simp only [storeVar, Sem.run_bind, run_sizeOf w h3, Result.andThen_ok, hcs, storeCells]
    simp [Addr.add, run_store _ _ _ _ _ h1, hcell, frozen_cel hh]
  simp only [execOp, ho, e1, e2, hx, hv, Instr.storeAt, Instr.sureAddr, Sem.run_bind, Sem.run_pure, Result.andThen_ok, hst]
end

theorem by8sb_len (s : ByteArray) : (by8 (sb s)).length = s.size := by rw [by8_len, sb_len]
theorem quo_i64 {p q : Int} (h : 0 ≤ p ∧ 0 ≤ p / q ∧ p / q ≤ 9223372036854775807) : IntKind.i64.wrap (p.tdiv q) = p / q := by rw [Int.tdiv_eq_ediv_of_nonneg h.1, w64 (by omega)]
theorem quo_u64 {p q : Int} (h : 0 ≤ p ∧ 0 ≤ p / q ∧ p / q ≤ 18446744073709551615) : IntKind.u64.wrap (p.tdiv q) = p / q := by rw [Int.tdiv_eq_ediv_of_nonneg h.1, wu64 (by omega)]
theorem quo_u32 {p q : Int} (h : 0 ≤ p ∧ 0 ≤ p / q ∧ p / q ≤ 4294967295) : IntKind.u32.wrap (p.tdiv q) = p / q := by rw [Int.tdiv_eq_ediv_of_nonneg h.1, wu32 (by omega)]
theorem quo_u8 {p q : Int} (h : 0 ≤ p ∧ 0 ≤ p / q ∧ p / q ≤ 255) : IntKind.u8.wrap (p.tdiv q) = p / q := by rw [Int.tdiv_eq_ediv_of_nonneg h.1, wu8 (by omega)]
/-! ### lists of elements of more cells -/
def en2 (l : List (Int × Int)) : List (List Value) := l.map fun x => [.int .i64 x.1, .int .i64 x.2]
@[simp] theorem en2_len (l : List (Int × Int)) : (en2 l).length = l.length := by simp [en2]
theorem en2_at {l : List (Int × Int)} {k : Nat} {x : (Int × Int)} (h : l[k]? = some x) : (en2 l)[k]? = some [.int .i64 x.1, .int .i64 x.2] := by simp [en2, h]
theorem en2_app (l m : List (Int × Int)) : en2 (l ++ m) = en2 l ++ en2 m := by simp [en2]
theorem en2_drop (l : List (Int × Int)) (k : Nat) : (en2 l).drop k = en2 (l.drop k) := by simp [en2]
theorem en2_take (l : List (Int × Int)) (k : Nat) : (en2 l).take k = en2 (l.take k) := by simp [en2]
theorem en2_nil : en2 [] = [] := rfl
theorem en2_snoc (l : List (Int × Int)) (x : (Int × Int)) : en2 l ++ [[.int .i64 x.1, .int .i64 x.2]] = en2 (l ++ [x]) := by simp [en2]
theorem en2_set (l : List (Int × Int)) (k : Nat) (x : (Int × Int)) : (en2 l).set k [.int .i64 x.1, .int .i64 x.2] = en2 (l.set k x) := by simp [en2, List.map_set]
theorem en2_ok (l : List (Int × Int)) : OkE 2 (en2 l) := fun x hx => by
  obtain ⟨y, _, rfl⟩ := List.mem_map.1 hx
  exact ⟨rfl, fun u hu => by simp at hu; rcases hu with rfl | rfl <;> rfl⟩
def ch4 (l : List (Int × Int × Int × Int)) : List (List Value) := l.map fun x => [.int .i64 x.1, .int .i64 x.2.1, .int .i64 x.2.2.1, .int .i64 x.2.2.2]
@[simp] theorem ch4_len (l : List (Int × Int × Int × Int)) : (ch4 l).length = l.length := by simp [ch4]
theorem ch4_at {l : List (Int × Int × Int × Int)} {k : Nat} {x : (Int × Int × Int × Int)} (h : l[k]? = some x) : (ch4 l)[k]? = some [.int .i64 x.1, .int .i64 x.2.1, .int .i64 x.2.2.1, .int .i64 x.2.2.2] := by simp [ch4, h]
theorem ch4_app (l m : List (Int × Int × Int × Int)) : ch4 (l ++ m) = ch4 l ++ ch4 m := by simp [ch4]
theorem ch4_drop (l : List (Int × Int × Int × Int)) (k : Nat) : (ch4 l).drop k = ch4 (l.drop k) := by simp [ch4]
theorem ch4_take (l : List (Int × Int × Int × Int)) (k : Nat) : (ch4 l).take k = ch4 (l.take k) := by simp [ch4]
theorem ch4_nil : ch4 [] = [] := rfl
theorem ch4_snoc (l : List (Int × Int × Int × Int)) (x : (Int × Int × Int × Int)) : ch4 l ++ [[.int .i64 x.1, .int .i64 x.2.1, .int .i64 x.2.2.1, .int .i64 x.2.2.2]] = ch4 (l ++ [x]) := by simp [ch4]
theorem ch4_set (l : List (Int × Int × Int × Int)) (k : Nat) (x : (Int × Int × Int × Int)) : (ch4 l).set k [.int .i64 x.1, .int .i64 x.2.1, .int .i64 x.2.2.1, .int .i64 x.2.2.2] = ch4 (l.set k x) := by simp [ch4, List.map_set]
theorem ch4_ok (l : List (Int × Int × Int × Int)) : OkE 4 (ch4 l) := fun x hx => by
  obtain ⟨y, _, rfl⟩ := List.mem_map.1 hx
  exact ⟨rfl, fun u hu => by simp at hu; rcases hu with rfl | rfl | rfl | rfl <;> rfl⟩
def i64s (l : List Int) : List (List Value) := l.map fun x => [.int .i64 x]
@[simp] theorem i64s_len (l : List Int) : (i64s l).length = l.length := by simp [i64s]
theorem i64s_at {l : List Int} {k : Nat} {x : Int} (h : l[k]? = some x) : (i64s l)[k]? = some [.int .i64 x] := by simp [i64s, h]
theorem i64s_app (l m : List Int) : i64s (l ++ m) = i64s l ++ i64s m := by simp [i64s]
theorem i64s_drop (l : List Int) (k : Nat) : (i64s l).drop k = i64s (l.drop k) := by simp [i64s]
theorem i64s_take (l : List Int) (k : Nat) : (i64s l).take k = i64s (l.take k) := by simp [i64s]
theorem i64s_nil : i64s [] = [] := rfl
theorem i64s_snoc (l : List Int) (x : Int) : i64s l ++ [[.int .i64 x]] = i64s (l ++ [x]) := by simp [i64s]
theorem i64s_set (l : List Int) (k : Nat) (x : Int) : (i64s l).set k [.int .i64 x] = i64s (l.set k x) := by simp [i64s, List.map_set]
theorem i64s_ok (l : List Int) : OkE 1 (i64s l) := fun x hx => by
  obtain ⟨y, _, rfl⟩ := List.mem_map.1 hx
  exact ⟨rfl, fun u hu => by simp at hu; rcases hu with rfl <;> rfl⟩
theorem by8_set (l : List Int) (k : Nat) (x : Int) : (by8 l).set k [.int .u8 x] = by8 (l.set k x) := by simp [by8, List.map_set]
end Go.V
