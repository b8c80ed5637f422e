/-
  Plain law: of two calls of Set with one old handle the first one wins.
  Conditions: none.
-/
import Derived.Test.YtenkmjbghbegfaaDoorNmt
namespace Go.V
open Go

theorem fnd_app {R : List Row3} {s : ByteArray} {y : Int} (h : fnd R s = none) : fnd (R ++ [(s, y, [])]) s = some (s, y, []) := by
  unfold fnd at h ⊢
  rw [List.find?_append, h]
  simp
theorem fnd_rem (R : List Row3) (s : ByteArray) : fnd (remM R s) s = none := by
  refine List.find?_eq_none.2 fun r hr => ?_
  have h1 := (List.mem_filter.1 hr).2
  have h2 : r.1 ≠ s := of_decide_eq_true h1
  exact fun h => h2 (of_decide_eq_true h)
theorem fnd_chg (R : List Row3) (s : ByteArray) (x y : Int) : fnd (chgM R s x y) s = (fnd R s).map fun r => (r.1, y, lgn r.2.2 x) := by
  unfold fnd chgM
  induction R with
  | nil => rfl
  | cons r l ih =>
    rw [List.map_cons]
    by_cases h : r.1 = s
    · rw [if_pos h, List.find?_cons_of_pos (p := fun r : Row3 => decide (r.1 = s)) (a := (r.1, y, lgn r.2.2 x)) (decide_eq_true h), List.find?_cons_of_pos (p := fun r : Row3 => decide (r.1 = s)) (decide_eq_true h)]; rfl
    · rw [if_neg h, List.find?_cons_of_neg (p := fun r : Row3 => decide (r.1 = s)) (fun k => h (of_decide_eq_true k)), List.find?_cons_of_neg (p := fun r : Row3 => decide (r.1 = s)) (fun k => h (of_decide_eq_true k)), ih]
theorem getH_none {R : List Row3} {s : ByteArray} (h : fnd R s = none) : getH R s = 0 ∧ getB R s = false ∧ logM R s = [] := by simp [getH, getB, logM, h]
theorem getH_some {R : List Row3} {s : ByteArray} {r : Row3} (h : fnd R s = some r) : getH R s = r.2.1 ∧ getB R s = true ∧ logM R s = r.2.2.reverse := by simp [getH, getB, logM, h]
theorem log_len {xs : List NB} {q : Nat} (h : TOk xs q) (s : ByteArray) : (logM (List.map ab xs) s).length ≤ 16 := by
  unfold logM
  cases hf : fnd (List.map ab xs) s with
  | none => exact Nat.zero_le _
  | some r =>
    obtain ⟨y, hy, rfl⟩ := List.mem_map.1 (List.mem_of_find?_eq_some hf)
    simpa [ab] using h.lgs y hy
/-- what a call of Set that succeeds leaves -/
theorem set_ok {R : List Row3} {s : ByteArray} {x : Int} (hv : okName (sb s)) (hl : R.length ≠ 256) (hx : x ≠ getH R s) : (setM R s (getH R s) x).1 = 0 ∧ getH (setM R s (getH R s) x).2 s = x := by
  have hb : ¬ ¬ (okName (sb s) ∧ ¬ (getH R s = 0 ∧ x = 0)) := fun h => h ⟨hv, fun ⟨h1, h2⟩ => hx (by rw [h1, h2])⟩
  unfold setM
  rw [if_neg hb, if_neg (fun h => h rfl)]
  cases hf : fnd R s with
  | none =>
    obtain ⟨h1, h2, _⟩ := getH_none hf
    rw [h2, if_neg (by decide), if_neg hl]
    exact ⟨rfl, (getH_some (fnd_app hf)).1⟩
  | some r =>
    obtain ⟨h1, h2, _⟩ := getH_some hf
    rw [if_pos h2]
    by_cases h0 : x = 0
    · subst h0
      rw [if_pos rfl]
      exact ⟨rfl, (getH_none (fnd_rem R s)).1⟩
    · rw [if_neg h0]
      refine ⟨rfl, ?_⟩
      have h3 := fnd_chg R s (getH R s) x
      rw [hf] at h3
      exact (getH_some h3).1
theorem set_stale {R : List Row3} {s : ByteArray} {o y : Int} (hv : okName (sb s)) (hy : ¬ (o = 0 ∧ y = 0)) (hx : getH R s ≠ o) : setM R s o y = (11, R) := by
  unfold setM
  rw [if_neg (fun h => h ⟨hv, hy⟩), if_pos hx]
theorem set_len (R : List Row3) (s : ByteArray) (x y : Int) : (setM R s x y).2.length ≤ R.length + 1 := by
  unfold setM
  split
  · exact Nat.le_succ _
  · split
    · exact Nat.le_succ _
    · split
      · split
        · exact Nat.le_succ_of_le (List.length_filter_le _ _)
        · simp [chgM]
      · split
        · exact Nat.le_succ _
        · simp
theorem fnd_none {R : List Row3} {s : ByteArray} : fnd R s = none ↔ ∀ r ∈ R, r.1 ≠ s := by
  unfold fnd
  rw [List.find?_eq_none]
  exact ⟨fun h r hr e => h r hr (decide_eq_true e), fun h r hr e => h r hr (of_decide_eq_true e)⟩
theorem set_new {R : List Row3} {s : ByteArray} {y : Int} (hv : okName (sb s)) (hy : y ≠ 0) (hf : fnd R s = none) (hl : R.length ≠ 256) : setM R s 0 y = (0, R ++ [(s, y, [])]) := by
  obtain ⟨h1, h2, _⟩ := getH_none hf
  unfold setM
  rw [if_neg (fun h => h ⟨hv, fun k => hy k.2⟩), h1, if_neg (fun h => h rfl), h2, if_neg (by decide), if_neg hl]
theorem set_fll {R : List Row3} {s : ByteArray} {y : Int} (hv : okName (sb s)) (hy : y ≠ 0) (hf : fnd R s = none) (hl : R.length = 256) : setM R s 0 y = (2, R) := by
  obtain ⟨h1, h2, _⟩ := getH_none hf
  unfold setM
  rw [if_neg (fun h => h ⟨hv, fun k => hy k.2⟩), h1, if_neg (fun h => h rfl), h2, if_neg (by decide), if_pos hl]
end Go.V
