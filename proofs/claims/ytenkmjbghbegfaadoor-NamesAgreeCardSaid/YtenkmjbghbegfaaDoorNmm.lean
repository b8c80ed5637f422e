/-
  Plain model of a table of names, and how it lies in memory.
  Conditions: none.
-/
import Derived.Test.YtenkmjbghbegfaaDoorMap
import Derived.Test.YtenkmjbghbegfaaDoorNum
namespace Go.V
open Go Go.RowKit

/-- a name, its handle, its earlier handles, and where they lie -/
structure NB where
  name : ByteArray
  h : Int
  lg : List Int
  b : Nat
  a : Option Addr
  c : Nat
  born : Nat
def nbK (x : NB) : Value × Value × Nat := (.string x.name, .pointer (some ⟨x.b, 0, none⟩), x.born)
def nbF (x : NB) : List HP := [cel x.b #[.int .u64 x.h, .slice x.a (u64s x.lg).length x.c] 65, Own 31 1 (u64s x.lg) x.a x.c]
/-- no name stands twice -/
def Uniq (xs : List NB) : Prop := xs.Pairwise fun x y => x.name ≠ y.name
theorem nb_key (xs : List NB) : ∀ x ∈ xs.map nbK, MapKept.IsKey .string x.1 := fun x hx => by
  obtain ⟨y, _, rfl⟩ := List.mem_map.1 hx
  trivial
theorem nb_in {xs : List NB} {k : Nat} {x : NB} (hx : xs[k]? = some x) (hu : Uniq xs) : mfind .string (.string x.name) (xs.map nbK) = some (some (k, .pointer (some ⟨x.b, 0, none⟩))) := by
  refine mfind_some (d := .string) (k := .string x.name) (b := x.born) trivial (nb_key xs) (by rw [List.getElem?_map, hx]; rfl) fun j hj y hy => ?_
  rw [List.getElem?_map] at hy
  cases hz : xs[j]? with
  | none => rw [hz] at hy; cases hy
  | some u =>
    rw [hz] at hy
    simp only [Option.map_some, Option.some.injEq] at hy
    subst hy
    intro he
    have he2 : u.name = x.name := Value.string.inj he
    have hl := (List.getElem?_eq_some_iff.1 hz).1
    have hl2 := (List.getElem?_eq_some_iff.1 hx).1
    refine List.pairwise_iff_getElem.1 hu j k hl hl2 hj ?_
    rw [(List.getElem?_eq_some_iff.1 hz).2, (List.getElem?_eq_some_iff.1 hx).2, he2]
theorem nb_out {xs : List NB} {s : ByteArray} (h : ∀ x : NB, x ∈ xs → x.name ≠ s) : mfind .string (.string s) (xs.map nbK) = some none := by
  refine mfind_none (d := .string) (k := .string s) trivial (nb_key xs) fun x hx => ?_
  obtain ⟨y, hy, rfl⟩ := List.mem_map.1 hx
  intro he
  exact h y hy (Value.string.inj he)
theorem nb_cases (xs : List NB) (s : ByteArray) : (∃ (k : Nat) (x : NB), xs[k]? = some x ∧ x.name = s) ∨ ∀ x : NB, x ∈ xs → x.name ≠ s := by
  by_cases h : ∃ x : NB, x ∈ xs ∧ x.name = s
  · obtain ⟨x, hx, hn⟩ := h
    obtain ⟨k, hk⟩ := List.mem_iff_getElem?.1 hx
    exact .inl ⟨k, x, hk, hn⟩
  · refine .inr fun (x : NB) hx hn => h ⟨x, hx, hn⟩
/-- the log, one handle more, at most 16 of them -/
def lgn (l : List Int) (x : Int) : List Int := (l ++ [x]).drop (l.length + 1 - 16)
theorem lgn_len {l : List Int} {x : Int} (h : l.length ≤ 16) : (lgn l x).length ≤ 16 := by rw [lgn, List.length_drop, List.length_append]; simp only [List.length_cons, List.length_nil]; omega
theorem lgn_few {l : List Int} {x : Int} (h : l.length + 1 ≤ 16) : lgn l x = l ++ [x] := by rw [lgn, show l.length + 1 - 16 = 0 by omega, List.drop_zero]
theorem nb_same {xs : List NB} {k : Nat} {z z' : NB} (hz : xs[k]? = some z) (h : nbK z' = nbK z) : List.map nbK (xs.set k z') = List.map nbK xs := by
  rw [List.map_set, h]
  have hl := (List.getElem?_eq_some_iff.1 hz).1
  have h2 : (List.map nbK xs)[k]'(by simpa using hl) = nbK z := by simp [(List.getElem?_eq_some_iff.1 hz).2]
  rw [← h2]; exact List.set_getElem_self _
/-! ### turning a list round -/
theorem rev_step {ls ms : List Int} {k : Nat} {x y : Int} (hk : k < ls.length - 1 - k) (hm : ms.length = ls.length) (hr : ∀ q, q < ls.length → ms[q]? = if q < k ∨ ls.length ≤ q + k then ls.reverse[q]? else ls[q]?) (hx : ms[k]? = some x) (hy : ms[ls.length - 1 - k]? = some y) :
    ∀ q, q < ls.length → ((ms.set k y).set (ls.length - 1 - k) x)[q]? = if q < k + 1 ∨ ls.length ≤ q + (k + 1) then ls.reverse[q]? else ls[q]? := fun q hq => by
  have h1 := hr k (by omega)
  have h2 := hr (ls.length - 1 - k) (by omega)
  rw [if_neg (by omega), hx] at h1
  rw [if_neg (by omega), hy] at h2
  by_cases e1 : q = ls.length - 1 - k
  · subst e1
    rw [List.getElem?_set_self (by simp; omega), if_pos (.inr (by omega)), List.getElem?_reverse (by omega), show ls.length - 1 - (ls.length - 1 - k) = k by omega, h1]
  · rw [List.getElem?_set_ne (fun h => e1 h.symm)]
    by_cases e2 : q = k
    · subst e2
      rw [List.getElem?_set_self (by omega), if_pos (.inl (by omega)), List.getElem?_reverse (by omega), h2]
    · rw [List.getElem?_set_ne (fun h => e2 h.symm), hr q hq]
      by_cases e3 : q < k ∨ ls.length ≤ q + k
      · rw [if_pos e3, if_pos (by omega)]
      · rw [if_neg e3, if_neg (by omega)]
theorem rev_end {ls ms : List Int} {k : Nat} (hk : ls.length ≤ 2 * k + 1) (hk2 : 2 * k ≤ ls.length) (hm : ms.length = ls.length) (hr : ∀ q, q < ls.length → ms[q]? = if q < k ∨ ls.length ≤ q + k then ls.reverse[q]? else ls[q]?) : ms = ls.reverse := by
  apply List.ext_getElem?
  intro q
  by_cases hq : q < ls.length
  · rw [hr q hq]
    split
    · rfl
    · rw [List.getElem?_reverse hq, show ls.length - 1 - q = q by omega]
  · rw [List.getElem?_eq_none (by omega), List.getElem?_eq_none (by simp; omega)]
end Go.V
