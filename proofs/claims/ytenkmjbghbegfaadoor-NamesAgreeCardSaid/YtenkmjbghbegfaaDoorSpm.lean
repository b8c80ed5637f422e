/-
  Plain model: a list of bytes parted at the slashes.
  Conditions: none.
-/
import Derived.Test.YtenkmjbghbegfaaDoorNmm
import Derived.Test.YtenkmjbghbegfaaDoorXtn
namespace Go.V
open Go

def prt : List Int → List (List Int)
  | [] => [[]]
  | x :: l => if x = 47 then [] :: prt l else (x :: (prt l).headD []) :: (prt l).tail
theorem prt_ne : ∀ l, prt l ≠ []
  | [] => by simp [prt]
  | x :: l => by unfold prt; split <;> simp
theorem prt_len : ∀ l : List Int, (prt l).length = l.count 47 + 1
  | [] => rfl
  | x :: l => by
    have ih := prt_len l
    unfold prt
    by_cases h : x = 47
    · subst h; simp [ih]
    · rw [if_neg h, List.count_cons, if_neg (by simpa using h)]
      simp only [List.length_cons, List.length_tail, ih]; omega
theorem fidx_ge : ∀ l : List Int, -1 ≤ fidx l 47 ∧ fidx l 47 < l.length
  | [] => by simp [fidx]
  | x :: l => by
    have := fidx_ge l
    unfold fidx
    simp only [List.length_cons]
    split
    · omega
    · split <;> omega
theorem fidx_none : ∀ l : List Int, fidx l 47 = -1 → l.count 47 = 0 ∧ prt l = [l]
  | [], _ => ⟨rfl, rfl⟩
  | x :: l, h => by
    have hg := fidx_ge l
    unfold fidx at h
    by_cases hx : x = 47
    · rw [if_pos hx] at h; omega
    · rw [if_neg hx] at h
      by_cases hf : fidx l 47 = -1
      · obtain ⟨h1, h2⟩ := fidx_none l hf
        refine ⟨by rw [List.count_cons, if_neg (by simpa using hx), h1], ?_⟩
        unfold prt; rw [if_neg hx, h2]; rfl
      · rw [if_neg hf] at h; omega
theorem fidx_some : ∀ (l : List Int) (m : Nat), fidx l 47 = m → prt l = l.take m :: prt (l.drop (m + 1)) ∧ l.count 47 = 1 + (l.drop (m + 1)).count 47
  | [], m, h => by simp [fidx] at h
  | x :: l, m, h => by
    have hg := fidx_ge l
    unfold fidx at h
    by_cases hx : x = 47
    · rw [if_pos hx] at h
      obtain rfl : m = 0 := by omega
      subst hx
      refine ⟨by simp [prt], ?_⟩
      simp only [Nat.zero_add, List.drop_succ_cons, List.drop_zero, List.count_cons_self]; omega
    · rw [if_neg hx] at h
      by_cases hf : fidx l 47 = -1
      · rw [if_pos hf] at h; omega
      · rw [if_neg hf] at h
        obtain ⟨m, rfl⟩ : ∃ k, m = k + 1 := ⟨m - 1, by omega⟩
        obtain ⟨h1, h2⟩ := fidx_some l m (by omega)
        refine ⟨?_, ?_⟩
        · conv => lhs; unfold prt
          rw [if_neg hx, h1]; simp
        · rw [List.count_cons, if_neg (by simpa using hx), List.drop_succ_cons, h2]; omega
theorem count_0 {l : List Int} (h : l.count 47 = 0) : prt l = [l] := by
  by_cases hf : fidx l 47 = -1
  · exact (fidx_none l hf).2
  · have hg := fidx_ge l
    have := (fidx_some l (fidx l 47).toNat (by omega)).2
    omega
theorem count_pos {l : List Int} (h : 0 < l.count 47) : ¬ fidx l 47 < 0 := fun hf => by
  have hg := fidx_ge l
  have := (fidx_none l (by omega)).1
  omega
/-! ### lists of strings -/
def strs (l : List (List Int)) : List (List Value) := l.map fun x => [.string (mkS x)]
@[simp] theorem strs_len (l : List (List Int)) : (strs l).length = l.length := by simp [strs]
theorem strs_at {l : List (List Int)} {k : Nat} {x : List Int} (h : l[k]? = some x) : (strs l)[k]? = some [.string (mkS x)] := by simp [strs, h]
theorem strs_set (l : List (List Int)) (k : Nat) (x : List Int) : (strs l).set k [.string (mkS x)] = strs (l.set k x) := by simp [strs, List.map_set]
theorem strs_ok (l : List (List Int)) : OkE 1 (strs l) := fun x hx => by
  obtain ⟨y, _, rfl⟩ := List.mem_map.1 hx
  exact ⟨rfl, fun u hu => by simp at hu; subst hu; rfl⟩
theorem strs_rep (n : Nat) : List.replicate n [Value.string ⟨#[]⟩] = strs (List.replicate n []) := by simp [strs, mkS]
theorem strs_take (l : List (List Int)) (k : Nat) : (strs l).take k = strs (l.take k) := by simp [strs]
theorem fill_set {done : List (List Int)} {k n : Nat} {p : List Int} (hd : done.length = k) (hk : k < n) : (done ++ List.replicate (n - k) []).set k p = (done ++ [p]) ++ List.replicate (n - (k + 1)) [] := by
  subst hd
  rw [List.set_append_right _ _ (Nat.le_refl _), Nat.sub_self, show n - done.length = (n - (done.length + 1)) + 1 by omega, List.replicate_succ, List.set_cons_zero]
  simp
theorem fill_at {done : List (List Int)} {k n : Nat} (hd : done.length = k) (hk : k < n) : (strs (done ++ List.replicate (n - k) []))[k]? = some [.string (mkS [])] := by
  refine strs_at ?_
  subst hd
  rw [List.getElem?_append_right (Nat.le_refl _), Nat.sub_self, List.getElem?_replicate, if_pos (by omega)]
theorem fill_put {done : List (List Int)} {k n : Nat} {p : List Int} (hd : done.length = k) (hk : k < n) : (strs (done ++ List.replicate (n - k) [])).set k [.string (mkS p)] = strs ((done ++ [p]) ++ List.replicate (n - (k + 1)) []) := by rw [strs_set, fill_set hd hk]
theorem fill_end {done all : List (List Int)} {k n : Nat} {r : ByteArray} (hd : done.length = k) (hk : n = k + 1) (hp : done ++ prt (sb r) = all) (hc : (sb r).count 47 = 0) : (strs (done ++ List.replicate (n - k) [])).set k [.string r] = strs all := by
  rw [count_0 hc] at hp
  subst hk; subst hp
  have h1 := fill_put (p := sb r) hd (show k < k + 1 by omega)
  rw [mkS_sb] at h1
  rw [h1]; simp
end Go.V
