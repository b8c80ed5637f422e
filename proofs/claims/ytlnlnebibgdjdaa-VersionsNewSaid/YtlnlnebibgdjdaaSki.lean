/-
  The engine: rows that a library's contract hands back or turns in place; a map with ints as keys as the library's contracts want it. No program.
  Conditions: none; every fact is proved from the library's own definitions.
-/
import Derived.Shelf.SlIterI.Nil
import Derived.Laws.AppendOwn
import Derived.Sort.OwnSortedInts
import Derived.Lib.SlicesCompact
import Derived.Lib.SlKeysI
import Derived.Test.YtlnlnebibgdjdaaEgb
namespace Go.V
open Go Go.RowKit Go.Maps Go.Sort

section
variable {g w w' : World} {L : List HP} {e size n : Nat} {v : Value} {xs : List Value}
theorem St.of_row (ls : List (List Value)) (h : St g L w) (hb : Below w.heap.size w w') (hr : w'.ownsRow w.heap.size e size v n xs) (hls : ls.flatten = xs) (hn : ls.length = n) (hok : OkE size ls) :
    ∃ a c, v = .slice a ls.length c ∧ St g (Own e size ls a c :: L) w' := by
  subst hn; subst hls
  have h0 : St g (pur True :: L) w := h.add fun _ _ => trivial
  obtain ⟨b1, b2, b3, b4, b5⟩ := hb
  obtain ⟨_, ⟨rfl, hn⟩ | ⟨q, cap, cur, rfl, hq, hcur, h1, h2, h3, h4⟩⟩ := hr
  · have hz : ls = [] := List.length_eq_zero_iff.1 hn
    subst hz
    refine ⟨none, 0, rfl, h0.upd b1 b2 b3 b4 fun o1 r _ _ _ _ => ⟨fun _ => none, ⟨OkE.nil _, .inl ⟨rfl, rfl, rfl⟩⟩, fun _ _ h => (by cases h), fun k hk => absurd rfl hk, fun k hk _ => b5 k hk⟩⟩
  · refine ⟨some ⟨q, 0, none⟩, cap, rfl, h0.upd b1 b2 b3 b4 fun o1 r _ _ _ _ => ⟨fun k => if k = q then some (.cells cur e (0, 0)) else none, ⟨hok, .inr ⟨q, cur, rfl, by simp, h1, h2, h3, h4⟩⟩, fun k x hx => ?_, fun k hk => ?_, fun k hk _ => b5 k hk⟩⟩
    · simp only at hx
      split at hx
      · rename_i hk; subst hk; simp only [Option.some.injEq] at hx; subst hx; exact hcur
      · cases hx
    · simp only [ne_eq, ite_eq_right_iff, reduceCtorEq, imp_false, Classical.not_not] at hk
      exact .inr (by omega)
/-- nothing of what is known has turned -/
theorem St.under (h : St g L w) (hb : Below w.heap.size w w') : St g L w' := by
  have h0 : St g (pur True :: L) w := h.add fun _ _ => trivial
  obtain ⟨b1, b2, b3, b4, b5⟩ := hb
  refine (h0.upd (B := pur True) b1 b2 b3 b4 fun o1 r _ _ _ _ => ⟨fun _ => none, trivial, fun _ _ h => (by cases h), fun k hk => absurd rfl hk, fun k hk _ => b5 k hk⟩).tail
end
/-! ### a row of ints that a contract turns in place -/
section
variable {g w : World} {L : List HP} {e c : Nat} {ls : List Int} {b : Nat}
theorem i64s_flat (l : List Int) : (i64s l).flatten = l.map (Value.int .i64) := by
  induction l with
  | nil => rfl
  | cons x l ih => simp only [i64s, List.map_cons, List.flatten_cons, List.singleton_append] at ih ⊢; rw [ih]
theorem St.holdsI (h : St g L w) (i : Nat) (hi : L[i]? = some (Own e 1 (i64s ls) (some ⟨b, 0, none⟩) c)) : Holds (Value.int .i64) w b 0 ls.toArray ∧ b < w.heap.size ∧ ls.length ≤ c := by
  obtain ⟨o1, r, ⟨h1, h2⟩, ho, hr⟩ := h.get i hi
  rcases h2 with ⟨h3, _, _⟩ | ⟨b', cur, h3, q2, q3, q4, q5, q6⟩
  · cases h3
  · cases h3
    have hb := ho _ _ q2
    refine ⟨holds_of_blockI hb (by rw [i64s_len, Nat.mul_one, i64s_flat] at q6; exact q6), (Array.getElem?_eq_some_iff.1 hb).1, by simpa using q3⟩
/-- what lies there is another row of that length -/
theorem St.putI (h : St g (Own e 1 (i64s ls) (some ⟨b, 0, none⟩) c :: L) w) (ts : List Int) (hl : ts.length = ls.length) (n : Nat) (os : Array Obj) :
    St g (Own e 1 (i64s ts) (some ⟨b, 0, none⟩) c :: L) (grow (putRow (Value.int .i64) (Sort.ahead w n) b 0 ts.toArray) os) := by
  have hg := grownBy_sortedI (w := w) (g := b) (n := n) (os := os) ts.toArray
  refine h.upd hg.os hg.tape hg.output hg.size fun o1 r hA hw _ _ => ?_
  obtain ⟨h1, h2⟩ := hA
  rcases h2 with ⟨h3, _, _⟩ | ⟨b', cur, h3, q2, q3, q4, q5, q6⟩
  · cases h3
  · cases h3
    have hb := hw _ _ q2
    rw [i64s_len] at q3 q6
    refine ⟨fun k => if k = b then some (.cells (putCells (Value.int .i64) 0 ts.toArray cur) e (0, 0)) else none, ⟨i64s_ok _, .inr ⟨b, _, rfl, if_pos rfl, by rw [i64s_len, hl]; exact q3, q4, by simp [putCells, q5], ?_⟩⟩, fun k x hx => ?_, fun k hk => ?_, fun k hk hn => ?_⟩
    · rw [i64s_len, Nat.mul_one, i64s_flat]
      exact take_putCellsI cur ts (by rw [hl, q5, Nat.mul_one]; exact q3)
    · simp only at hx
      split at hx
      · rename_i hk; subst hk; simp only [Option.some.injEq] at hx; subst hx; exact heap_sortedI _ hb
      · cases hx
    · simp only [ne_eq, ite_eq_right_iff, reduceCtorEq, imp_false, Classical.not_not] at hk
      subst hk; exact .inl (by rw [q2]; simp)
    · refine hg.block k hk fun he => ?_
      simp only [Option.some.injEq] at he; subst he
      rw [q2] at hn; cases hn
theorem St.ownTake {a : Option Addr} {size : Nat} {ks : List (List Value)} (h : St g (Own e size ks a c :: L) w) (k : Nat) : St g (Own e size (ks.take k) a c :: L) w := by
  refine h.impl fun o r ⟨h1, h2⟩ => ⟨fun x hx => h1 x (List.mem_of_mem_take hx), ?_⟩
  rcases h2 with ⟨q1, q2, rfl⟩ | ⟨b, cur, q1, q2, q3, q4, q5, q6⟩
  · exact .inl ⟨q1, q2, by simp⟩
  · refine .inr ⟨b, cur, q1, q2, Nat.le_trans (by rw [List.length_take]; omega) q3, q4, q5, ?_⟩
    have h4 : ∀ x ∈ ks.take k, x.length = size := fun x hx => h1.len x (List.mem_of_mem_take hx)
    have h5 := flat_len (ks.take k) size h4
    have h6 : (ks.take k).flatten = ks.flatten.take ((ks.take k).length * size) := by
      have h7 : ks.flatten = (ks.take k).flatten ++ (ks.drop k).flatten := by rw [← List.flatten_append, List.take_append_drop]
      rw [h7, List.take_left' h5]
    rw [h6, ← q6, List.take_take]
    congr 1
    have : (ks.take k).length ≤ ks.length := by rw [List.length_take]; omega
    exact (Nat.min_eq_left (Nat.mul_le_mul_right _ this)).symm
theorem St.addrI {a : Option Addr} (h : St g L w) (i : Nat) (hi : L[i]? = some (Own e 1 (i64s ls) a c)) (hne : ls ≠ []) : ∃ b, a = some ⟨b, 0, none⟩ := by
  obtain ⟨o1, r, ⟨h1, h2⟩, ho, hr⟩ := h.get i hi
  rcases h2 with ⟨_, _, h3⟩ | ⟨b', cur, h3, _⟩
  · simp [i64s] at h3; exact absurd h3 hne
  · exact ⟨b', h3⟩
end
theorem compact_len (l : List Int) : (Go.Lib.compact l).length ≤ l.length := by
  unfold Go.Lib.compact Go.Lib.compactUpTo
  rw [List.length_map]
  exact Nat.le_trans (List.length_filter_le _ _) (by simp)
theorem sort_eqI {ys ss : List Int} (hp : ss.Perm ys) (hs : ss.Pairwise (· ≤ ·)) : ys.mergeSort (fun x y => decide (x ≤ y)) = ss := by
  have h1 := mergeSort_of_perm_i hp
  show ys.mergeSort leI = _
  rw [← h1]
  exact List.mergeSort_of_pairwise (le := leI) (hs.imp fun h => decide_eq_true h)
end Go.V
