/-
  The engine: a struct stored into an element of a slice. No program.
  Conditions: none.
-/
import Derived.Test.YtlnlnebibgdjdaaEgb
import Derived.Test.YtlnlnebibgdjdaaEga
namespace Go.V
open Go Go.RowKit

theorem flat_split : ∀ (ls : List (List Value)) (size : Nat), (∀ x ∈ ls, x.length = size) → ∀ (k : Nat) (vs : List Value), k < ls.length → vs.length = size → (ls.set k vs).flatten = ls.flatten.take (k * size) ++ vs ++ ls.flatten.drop (k * size + size)
  | [], _, _, k, _, h, _ => by simp at h
  | x :: r, size, hs, 0, vs, _, hv => by
    have hx := hs x (List.mem_cons_self ..)
    subst hx
    simp
  | x :: r, size, hs, k + 1, vs, h, hv => by
    have hx := hs x (List.mem_cons_self ..)
    have ih := flat_split r size (fun y hy => hs y (List.mem_cons_of_mem _ hy)) k vs (by simpa using h) hv
    rw [List.set_cons_succ, List.flatten_cons, ih, List.flatten_cons, Nat.succ_mul]
    rw [List.take_append, List.drop_append, hx]
    rw [show k * size + size - size = k * size by omega, show k * size + size + size - size = k * size + size by omega]
    rw [List.take_of_length_le (l := x) (by omega), List.drop_of_length_le (l := x) (by omega)]
    simp
theorem take_spl {cur vs : List Value} {off n : Nat} (h1 : off + vs.length ≤ n) (h2 : n ≤ cur.length) : (cur.take off ++ vs ++ cur.drop (off + vs.length)).take n = (cur.take n).take off ++ vs ++ (cur.take n).drop (off + vs.length) := by
  rw [List.take_append, List.take_append, List.length_append, List.length_take, List.take_take, List.take_take, List.drop_take]
  rw [show min off cur.length = off by omega, show min n off = off by omega, show min off n = off by omega]
  rw [List.take_of_length_le (l := vs) (by omega)]
section
variable {P : Program} {T : Tab} [hT : TabOk P T] {n : Nat} {os l : List Oper} {K : Kt} {F : Fm} {w g : World} {L : List HP} {e size c : Nat} {ls : List (List Value)} {a : Option Addr}
theorem St.setS {k b : Nat} {cs vs : List Value} {cur : Array Value} (h : St g (Own e size ls (some ⟨b, 0, none⟩) c :: L) w) (hk : ls[k]? = some cs) (hh : w.heap[b]? = some (.cells cur e (0, 0))) (hl : vs.length = size) (hv : ∀ u ∈ vs, u.oneCell' = true) :
    k * size + size ≤ cur.size ∧ St g (Own e size (ls.set k vs) (some ⟨b, 0, none⟩) c :: L) (w.setRow b (spl cur (k * size) vs)) := by
  have hkl : k < ls.length := (List.getElem?_eq_some_iff.1 hk).1
  have hsz : k * size + size ≤ cur.size := by
    obtain ⟨o1, r, hA, ho, hr⟩ := h.get 0 rfl
    obtain ⟨hok, hA⟩ := hA
    rcases hA with ⟨_, _, h3⟩ | ⟨b', cur', hb, h2, h3, h4, h5, h6⟩
    · subst h3; simp at hkl
    · cases hb
      have := ho _ _ h2
      rw [hh] at this; cases this
      rw [h5]
      calc k * size + size = (k + 1) * size := by rw [Nat.succ_mul]
        _ ≤ c * size := Nat.mul_le_mul_right _ (by omega)
  refine ⟨hsz, h.upd rfl rfl rfl (by simp [World.setRow]) fun o1 r hA hw _ _ => ?_⟩
  obtain ⟨hok, hA⟩ := hA
  rcases hA with ⟨_, _, h3⟩ | ⟨b', cur', hb, h2, h3, h4, h5, h6⟩
  · subst h3; simp at hkl
  · cases hb
    have := hw _ _ h2
    rw [hh] at this; cases this
    have hok' : OkE size (ls.set k vs) := fun x hx => by
      rcases List.mem_or_eq_of_mem_set hx with hx | rfl
      · exact hok x hx
      · exact ⟨hl, hv⟩
    have hlt : ls.length * size ≤ cur.size := by rw [h5]; exact Nat.mul_le_mul_right _ h3
    have hkn : k * size + size ≤ ls.length * size := by
      calc k * size + size = (k + 1) * size := by rw [Nat.succ_mul]
        _ ≤ ls.length * size := Nat.mul_le_mul_right _ (by omega)
    refine ⟨fun q => if q = b then some (.cells (spl cur (k * size) vs) e (0, 0)) else none, ⟨hok', .inr ⟨b, spl cur (k * size) vs, rfl, by simp, by simpa using h3, h4, ?_, ?_⟩⟩, fun q x hx => ?_, fun q hq => ?_, fun q hq hn => ?_⟩
    · rw [← h5]; unfold spl; simp; omega
    · rw [List.length_set]
      show (cur.toList.take (k * size) ++ vs ++ cur.toList.drop (k * size + vs.length)).take (ls.length * size) = _
      rw [take_spl (by omega) (by simpa using hlt), h6, flat_split ls size hok.len k vs hkl hl, hl]
    · simp only at hx
      split at hx
      · rename_i hq; subst hq; simp only [Option.some.injEq] at hx; subst hx
        exact setRow_heap w _ cur _ e _ (hw _ _ h2)
      · cases hx
    · simp only [ne_eq, ite_eq_right_iff, reduceCtorEq, imp_false, Classical.not_not] at hq
      subst hq
      exact .inl (by rw [h2]; simp)
    · refine setRow_other w b q _ fun eq => ?_
      have : o1 q = some (.cells cur e (0, 0)) := by rw [eq]; exact h2
      rw [hn] at this; cases this
/-- l[k] = a struct -/
theorem WL.stS {o : Oper} {t : TypeId} {x y : Operand} {vs : Array Value} (hg : o.guard = none) (hd : o.dst = none) (ho : o.op = .store t x y) (i k : Nat) (cs : List Value) (ls' : List (List Value)) (hS : St g L w) (hi : L[i]? = some (Own e size ls a c)) (hks : ls[k]? = some cs) (hx : ev F x = .pointer (some ⟨bo a, oo a + k * size, none⟩)) (hv : ev F y = .agg vs)
    (h1 : vs.toList.all (·.oneCell') = true) (hl : vs.size = size) (ht : AggT P t vs.size) (hls : ls.set k vs.toList = ls') (hk : ∀ w', St g (L.set i (Own e size ls' a c)) w' → WL P n os l K F w') : WL P n os (o :: l) K F w := by
  subst hls
  obtain ⟨b, cur, rfl, hh, _⟩ := hS.ownRow i hi hks
  have hall : ∀ u ∈ vs.toList, u.oneCell' = true := fun u hu => List.all_eq_true.1 h1 u hu
  obtain ⟨hsz, hS1⟩ := (hS.at_ i hi).setS hks hh (by simpa using hl) hall
  have hS' := hS1.back i hi
  refine WL.unit hg hd (fun hok => ?_) (hk _ hS')
  have e1 := okX_at (F := F) hok (x := x) (by simp [ho, Op.operands])
  have e2 := okX_at (F := F) hok (x := y) (by simp [ho, Op.operands])
  simp only [bo, oo, Nat.zero_add] at hx
  have hst := run_storeVar (P := P) (t := t) (off := k * size) (v := .agg vs) ht.2.2 hh hall (by show k * size + vs.size ≤ _; omega)
  rw [show (Value.agg vs).cells.toList = vs.toList from rfl] at hst
  simp only [execOp, ho, e1, e2, hx, hv, Instr.storeAt, Instr.sureAddr, Sem.run_bind, Sem.run_pure, Result.andThen_ok, hst]
end
end Go.V
