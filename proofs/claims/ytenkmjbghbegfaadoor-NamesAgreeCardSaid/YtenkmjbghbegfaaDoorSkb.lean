/-
  The engine: a row that a library's contract hands back is a slice of the call's own; a map with strings as keys as the library's contracts want it. No program.
  Conditions: none; every fact is proved from the library's own definitions.
-/
import Derived.Shelf.SlIter.Nil
import Derived.Laws.AppendOwn
import Derived.Sort.KeysCollected
import Derived.Test.YtenkmjbghbegfaaDoorNmm
import Derived.Test.YtenkmjbghbegfaaDoorSpm
namespace Go.V
open Go Go.RowKit Go.Maps

section
variable {g w w' : World} {L : List HP} {e size n : Nat} {v : Value} {xs : List Value}
theorem St.of_row (ls : List (List Value)) (h : St g L w) (hb : Below w.heap.size w w') (hr : w'.ownsRow w.heap.size e size v n xs) (hls : ls.flatten = xs) (hn : ls.length = n) (hok : OkE size ls) :
    ∃ a c, v = .slice a ls.length c ∧ St g (Own e size ls a c :: L) w' := by
  subst hn; subst hls
  have h0 : St g (pur True :: L) w := h.add fun _ _ => trivial
  obtain ⟨b1, b2, b3, b4, b5⟩ := hb
  obtain ⟨_, ⟨rfl, hn⟩ | ⟨q, cap, cur, rfl, hq, hcur, h1, h2, h3, h4⟩⟩ := hr
  · have hz : ls = [] := List.length_eq_zero_iff.1 hn
    subst hz
    refine ⟨none, 0, rfl, h0.upd b1 b2 b3 b4 fun o1 r _ _ _ _ => ⟨fun _ => none, ⟨OkE.nil _, .inl ⟨rfl, rfl, rfl⟩⟩, fun _ _ h => (by cases h), fun k hk => absurd rfl hk, fun k hk _ => b5 k hk⟩⟩
  · refine ⟨some ⟨q, 0, none⟩, cap, rfl, h0.upd b1 b2 b3 b4 fun o1 r _ _ _ _ => ⟨fun k => if k = q then some (.cells cur e (0, 0)) else none, ⟨hok, .inr ⟨q, cur, rfl, by simp, h1, h2, h3, h4⟩⟩, fun k x hx => ?_, fun k hk => ?_, fun k hk _ => b5 k hk⟩⟩
    · simp only at hx
      split at hx
      · rename_i hk; subst hk; simp only [Option.some.injEq] at hx; subst hx; exact hcur
      · cases hx
    · simp only [ne_eq, ite_eq_right_iff, reduceCtorEq, imp_false, Classical.not_not] at hk
      exact .inr (by omega)
/-- nothing of what is known has turned -/
theorem St.under (h : St g L w) (hb : Below w.heap.size w w') : St g L w' := by
  have h0 : St g (pur True :: L) w := h.add fun _ _ => trivial
  obtain ⟨b1, b2, b3, b4, b5⟩ := hb
  refine (h0.upd (B := pur True) b1 b2 b3 b4 fun o1 r _ _ _ _ => ⟨fun _ => none, trivial, fun _ _ h => (by cases h), fun k hk => absurd rfl hk, fun k hk _ => b5 k hk⟩).tail
end
/-- lists of strings -/
def bas (l : List ByteArray) : List (List Value) := l.map fun x => [.string x]
@[simp] theorem bas_len (l : List ByteArray) : (bas l).length = l.length := by simp [bas]
theorem bas_at {l : List ByteArray} {k : Nat} {x : ByteArray} (h : l[k]? = some x) : (bas l)[k]? = some [.string x] := by simp [bas, h]
theorem bas_ok (l : List ByteArray) : OkE 1 (bas l) := fun x hx => by
  obtain ⟨y, _, rfl⟩ := List.mem_map.1 hx
  exact ⟨rfl, fun u hu => by simp at hu; subst hu; rfl⟩
/-- Go's order of strings -/
def bleq (x y : ByteArray) : Prop := x.data.toList ≤ y.data.toList
theorem bleq_anti {x y : ByteArray} (h : bleq x y) (k : bleq y x) : x = y := by
  have := List.le_antisymm h k
  cases x; cases y
  simpa using this
theorem bleq_trans {x y z : ByteArray} (h : bleq x y) (k : bleq y z) : bleq x z := List.le_trans h k
theorem bleq_total (x y : ByteArray) : bleq x y ∨ bleq y x := List.le_total _ _
/-- a sorted list of the same names is the sorted list -/
theorem sort_eq {ys : List (List UInt8)} {ss : List ByteArray} (hp : (ss.map fun x => x.data.toList).Perm ys) (hs : ss.Pairwise bleq) : (ys.mergeSort fun x y => decide (x ≤ y)).map (fun l => (Value.string ⟨l.toArray⟩)) = (bas ss).flatten := by
  have e : ys.mergeSort (fun x y => decide (x ≤ y)) = ss.map fun x => x.data.toList := by
    have h1 := mergeSort_of_perm hp
    show ys.mergeSort leB = _
    rw [← h1]
    refine List.mergeSort_of_pairwise (le := leB) ?_
    rw [List.pairwise_map]
    exact hs.imp fun {a b : ByteArray} (h : a.data.toList ≤ b.data.toList) => decide_eq_true h
  rw [e, List.map_map]
  clear e hp hs
  induction ss with
  | nil => rfl
  | cons x l ih => simp only [bas, List.map_cons, List.flatten_cons, List.singleton_append] at ih ⊢; rw [ih]; rfl
section
variable {P : Program} {k : TypeId}
/-- how a pointer in the table reads: not at all -/
def noRd (_ : Value) : Option (DataW Unit × List MemPlace) := some (.nil, [])
/-- a table that is one: no name twice, no stamp twice -/
structure TOk (xs : List NB) (q : Nat) : Prop where
  uniq : Uniq xs
  born : ∀ x ∈ xs, x.born < q
  bnd : (xs.map (·.born)).Nodup
  len : ∀ x ∈ xs, x.name.size ≤ 32
  num : xs.length ≤ 256
  lgs : ∀ x ∈ xs, x.lg.length ≤ 16
  nz : ∀ x ∈ xs, x.h ≠ 0
theorem str_keys (xs : List NB) (q : Nat) (h : TOk xs q) (hk : P.underlying k = some .string) {w : World} {b : Nat} (hb : w.heap[b]? = some (.map (mE (xs.map nbK)) q)) :
    ∃ D : DataW Unit, w.ownsMap P k noRd b 256 D ∧ Maps.size D = xs.length ∧ (strKeys D).Perm (xs.map fun x => x.name.data.toList) := by
  have hrd : ∀ x : NB, x ∈ xs → Go.WideElems.rd P k noRd ⟨.string x.name, .pointer (some ⟨x.b, 0, none⟩), x.born⟩ = some (.string x.name.data.toList, .nil) := fun x hx => by
    have h1 := h.len x hx
    have h2 : x.name.size ≤ maxLen := Nat.le_trans h1 (by decide)
    have h3 : keyOf P k (.string x.name) = some (.string x.name.data.toList) := by simp [keyOf, hk, mapKey, h2]
    simp [Go.WideElems.rd, h3, noRd]
  have hF : Go.WideElems.Fit P k noRd (mE (xs.map nbK)) q := by
    refine ⟨by rw [mE_size, List.length_map]; exact Nat.le_trans h.num (by decide), ⟨?_, ?_, ?_⟩, ?_⟩
    · intro x hx
      simp only [mE_toList, List.map_map, List.mem_map] at hx
      obtain ⟨y, hy, rfl⟩ := hx
      exact h.born y hy
    · rw [mE_toList, List.map_map, List.map_map]
      exact h.bnd
    · rw [mE_toList, List.map_map, List.map_map]
      refine List.pairwise_map.2 (h.uniq.imp fun {a b} hne he => hne ?_)
      exact Value.string.inj he
    · intro x hx
      simp only [mE_toList, List.map_map, List.mem_map] at hx
      obtain ⟨y, hy, rfl⟩ := hx
      exact ⟨_, hrd y hy⟩
  refine ⟨_, ⟨_, _, hb, hF, by rw [mE_size, List.length_map]; exact h.num, rfl⟩, ?_, ?_⟩
  · rw [Maps.size_eq, (WideShapes.sorted_perm _).length_eq]; simp
  · refine ((WideShapes.sorted_perm _).map _).trans ?_
    rw [mE_toList, List.map_map, List.map_map, List.map_map]
    refine List.Perm.of_eq (List.map_congr_left fun x hx => ?_)
    simp only [Function.comp_def, nbK, Go.WideElems.rg, hrd x hx, Option.getD_some, strOf]
end
end Go.V
