/-
  Plain model: which versions are needed.
  Conditions: none.
-/
import Derived.Test.YtlnlnebibgdjdaaGs
namespace Go.V
open Go Go.RowKit

def needG (xs : List VN) (z : Int) : Prop := liveG xs z = true ∨ (0 < z ∧ ∃ x y, liveG xs x = true ∧ liveG xs y = true ∧ x < y ∧ baseG xs x y = z)
theorem fl_skip {f : Int → Bool} {ss : List Int} {k : Nat} {n : Int} (h : ss[k]? = some n) (hf : f n = false) : (ss.take (k + 1)).filter f = (ss.take k).filter f := by
  rw [List.take_add_one, h, List.filter_append]; simp [hf]
theorem fl_take {f : Int → Bool} {ss : List Int} {k : Nat} {n : Int} (h : ss[k]? = some n) (hf : f n = true) : (ss.take (k + 1)).filter f = (ss.take k).filter f ++ [n] := by
  rw [List.take_add_one, h, List.filter_append]; simp [hf]
theorem need_next {xs : List VN} {ns ns2 : List (Int × Nat)} {lv : List Int} {n : Int} (h1 : ∀ z, inB ns z = true ↔ z ∈ lv ∨ (0 < z ∧ ∃ x ∈ lv, ∃ y ∈ lv, x < y ∧ baseG xs x y = z)) (h2 : ∀ z, inB ns2 z = true ↔ z = n ∨ inB ns z = true ∨ (0 < z ∧ ∃ x ∈ lv, baseG xs x n = z)) (hlt : ∀ x ∈ lv, x < n) :
    ∀ z, inB ns2 z = true ↔ z ∈ lv ++ [n] ∨ (0 < z ∧ ∃ x ∈ lv ++ [n], ∃ y ∈ lv ++ [n], x < y ∧ baseG xs x y = z) := fun z => by
  rw [h2, h1]
  constructor
  · rintro (rfl | (h | ⟨h, x, hx, y, hy, hxy, he⟩) | ⟨h, x, hx, he⟩)
    · exact .inl (by simp)
    · exact .inl (List.mem_append_left _ h)
    · exact .inr ⟨h, x, List.mem_append_left _ hx, y, List.mem_append_left _ hy, hxy, he⟩
    · exact .inr ⟨h, x, List.mem_append_left _ hx, n, by simp, hlt x hx, he⟩
  · rintro (h | ⟨h, x, hx, y, hy, hxy, he⟩)
    · rcases List.mem_append.1 h with h | h
      · exact .inr (.inl (.inl h))
      · exact .inl (List.mem_singleton.1 h)
    · rcases List.mem_append.1 hx with hx | hx
      · rcases List.mem_append.1 hy with hy | hy
        · exact .inr (.inl (.inr ⟨h, x, hx, y, hy, hxy, he⟩))
        · rw [List.mem_singleton.1 hy] at he; exact .inr (.inr ⟨h, x, hx, he⟩)
      · rw [List.mem_singleton.1 hx] at hxy
        rcases List.mem_append.1 hy with hy | hy
        · have := hlt y hy; omega
        · rw [List.mem_singleton.1 hy] at hxy; omega
theorem need_in {xs : List VN} {a b ns : List (Int × Nat)} {lv : List Int} {n x : Int} {k : Nat} (h : ∀ z, inB a z = true ↔ z = n ∨ inB ns z = true ∨ (0 < z ∧ ∃ x ∈ lv.take k, baseG xs x n = z)) (hx : lv[k]? = some x) (hp : 0 < baseG xs x n) (h2 : ∀ z, inB b z = true ↔ z = baseG xs x n ∨ inB a z = true) :
    ∀ z, inB b z = true ↔ z = n ∨ inB ns z = true ∨ (0 < z ∧ ∃ x ∈ lv.take (k + 1), baseG xs x n = z) := fun z => by
  rw [h2, h, List.take_add_one, hx]
  constructor
  · rintro (rfl | h | h | ⟨h, y, hy, he⟩)
    · exact .inr (.inr ⟨hp, x, by simp, rfl⟩)
    · exact .inl h
    · exact .inr (.inl h)
    · exact .inr (.inr ⟨h, y, List.mem_append_left _ hy, he⟩)
  · rintro (h | h | ⟨h, y, hy, he⟩)
    · exact .inr (.inl h)
    · exact .inr (.inr (.inl h))
    · rcases List.mem_append.1 hy with hy | hy
      · exact .inr (.inr (.inr ⟨h, y, hy, he⟩))
      · simp at hy; subst hy; exact .inl he.symm
theorem need_in0 {xs : List VN} {a ns : List (Int × Nat)} {lv : List Int} {n x : Int} {k : Nat} (h : ∀ z, inB a z = true ↔ z = n ∨ inB ns z = true ∨ (0 < z ∧ ∃ x ∈ lv.take k, baseG xs x n = z)) (hx : lv[k]? = some x) (hp : ¬ 0 < baseG xs x n) :
    ∀ z, inB a z = true ↔ z = n ∨ inB ns z = true ∨ (0 < z ∧ ∃ x ∈ lv.take (k + 1), baseG xs x n = z) := fun z => by
  rw [h, List.take_add_one, hx]
  constructor
  · rintro (h | h | ⟨h, y, hy, he⟩)
    · exact .inl h
    · exact .inr (.inl h)
    · exact .inr (.inr ⟨h, y, List.mem_append_left _ hy, he⟩)
  · rintro (h | h | ⟨h, y, hy, he⟩)
    · exact .inl h
    · exact .inr (.inl h)
    · rcases List.mem_append.1 hy with hy | hy
      · exact .inr (.inr ⟨h, y, hy, he⟩)
      · simp at hy; subst hy; omega
/-- the keys, ascending -/
structure Keys (xs : List VN) (ss : List Int) : Prop where
  perm : ss.Perm (xs.map VN.n)
  asc : Asc ss
theorem Keys.le {xs : List VN} {ss : List Int} (h : Keys xs ss) : ss.Pairwise (· ≤ ·) := h.asc.imp fun h => by omega
theorem Keys.mem {xs : List VN} {ss : List Int} (h : Keys xs ss) (z : Int) : z ∈ ss ↔ preG xs z = true := by
  rw [h.perm.mem_iff, pre_iff, List.mem_map]
theorem keys_ex {xs : List VN} (hu : VUq xs) : ∃ ss, Keys xs ss := by
  refine ⟨srtI (xs.map VN.n), srtI_perm _, ?_⟩
  have h1 : (srtI (xs.map VN.n)).Nodup := (srtI_perm _).nodup_iff.2 (List.pairwise_map.2 hu)
  exact (List.pairwise_and_iff.2 ⟨srtI_le (xs.map VN.n), h1⟩).imp fun ⟨h, k⟩ => by omega
theorem Keys.uq {xs : List VN} {ss ss' : List Int} (h : Keys xs ss) (h' : Keys xs ss') : ss = ss' :=
  List.Perm.eq_of_pairwise (le := fun a b : Int => a ≤ b) (fun a b _ _ h1 h2 => by omega) h.le h'.le (h.perm.trans h'.perm.symm)
theorem take_lt {ss : List Int} (h : Asc ss) {k : Nat} {n : Int} (hn : ss[k]? = some n) : ∀ x ∈ ss.take k, x < n := fun x hx => by
  obtain ⟨i, hi⟩ := List.mem_iff_getElem?.1 hx
  rw [List.getElem?_take] at hi
  split at hi
  · rename_i hlt
    have h1 := (List.getElem?_eq_some_iff.1 hi).1
    have h2 := (List.getElem?_eq_some_iff.1 hn).1
    have h3 := List.pairwise_iff_getElem.1 h i k h1 h2 hlt
    rw [(List.getElem?_eq_some_iff.1 hi).2, (List.getElem?_eq_some_iff.1 hn).2] at h3
    exact h3
  · cases hi
theorem need_end {xs : List VN} {ss : List Int} {ns : List (Int × Nat)} (hK : Keys xs ss) (h : ∀ z, inB ns z = true ↔ z ∈ ss.filter (liveG xs) ∨ (0 < z ∧ ∃ x ∈ ss.filter (liveG xs), ∃ y ∈ ss.filter (liveG xs), x < y ∧ baseG xs x y = z)) : ∀ z, inB ns z = true ↔ needG xs z := fun z => by
  have hm : ∀ z, z ∈ ss.filter (liveG xs) ↔ liveG xs z = true := fun z => by
    rw [List.mem_filter]
    exact ⟨fun h => h.2, fun h => ⟨(hK.mem z).2 (live_pre h), h⟩⟩
  rw [h, hm]
  constructor
  · rintro (h | ⟨h, x, hx, y, hy, hxy, he⟩)
    · exact .inl h
    · exact .inr ⟨h, x, y, (hm x).1 hx, (hm y).1 hy, hxy, he⟩
  · rintro (h | ⟨h, x, y, hx, hy, hxy, he⟩)
    · exact .inl h
    · exact .inr ⟨h, x, (hm x).2 hx, y, (hm y).2 hy, hxy, he⟩
end Go.V
