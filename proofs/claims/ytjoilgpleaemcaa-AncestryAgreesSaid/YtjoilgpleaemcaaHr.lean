/-
  Plain model of the reference's history: parents, reachable versions, marks.
  Conditions: none.
-/
import Derived.Test.YtjoilgpleaemcaaGx
namespace Go.V
open Go Go.RowKit

/-- a version's parents and where they lie -/
structure PR where
  ps : List Int
  a : Option Addr
  c : Nat
def prC (r : PR) : List Value := [.slice r.a (i64s r.ps).length r.c]
def enP (l : List PR) : List (List Value) := l.map prC
@[simp] theorem enP_len (l : List PR) : (enP l).length = l.length := by simp [enP]
theorem enP_at {l : List PR} {k : Nat} {r : PR} (h : l[k]? = some r) : (enP l)[k]? = some [.slice r.a (i64s r.ps).length r.c] := by simp [enP, h, prC]
theorem enP_snoc (l : List PR) (r : PR) : enP l ++ [[.slice r.a (i64s r.ps).length r.c]] = enP (l ++ [r]) := by simp [enP, prC]
theorem enP_app (l m : List PR) : enP (l ++ m) = enP l ++ enP m := by simp [enP]
theorem enP_ok (l : List PR) : OkE 1 (enP l) := fun x hx => by
  obtain ⟨y, _, rfl⟩ := List.mem_map.1 hx
  exact ⟨rfl, fun u hu => by simp [prC] at hu; subst hu; rfl⟩
theorem enP_nil : enP [] = [] := rfl
def prF (r : PR) : List HP := [Sh 3 1 (i64s r.ps) r.a r.c]
theorem prF_sh (r : PR) : ∀ A ∈ prF r, Sht A := fun A hA => by
  simp only [prF, List.mem_singleton] at hA; subst hA; exact Sht.sh
def bos (l : List Bool) : List (List Value) := l.map fun x => [.bool x]
@[simp] theorem bos_len (l : List Bool) : (bos l).length = l.length := by simp [bos]
theorem bos_at {l : List Bool} {k : Nat} {x : Bool} (h : l[k]? = some x) : (bos l)[k]? = some [.bool x] := by simp [bos, h]
theorem bos_snoc (l : List Bool) (x : Bool) : bos l ++ [[.bool x]] = bos (l ++ [x]) := by simp [bos]
theorem bos_app (l m : List Bool) : bos (l ++ m) = bos l ++ bos m := by simp [bos]
theorem bos_set (l : List Bool) (k : Nat) (x : Bool) : (bos l).set k [.bool x] = bos (l.set k x) := by simp [bos, List.map_set]
theorem bos_ok (l : List Bool) : OkE 1 (bos l) := fun x hx => by
  obtain ⟨y, _, rfl⟩ := List.mem_map.1 hx
  exact ⟨rfl, fun u hu => by simp at hu; subst hu; rfl⟩
theorem bos_nil : bos [] = [] := rfl
theorem bos_rep (n : Nat) : List.replicate n [.bool false] = bos (List.replicate n false) := by simp [bos]
/-! ### reachable versions -/
inductive Rch (P : List PR) (n : Int) : Int → Prop
  | refl : 1 ≤ n → n ≤ P.length → Rch P n n
  | step {i : Nat} {r : PR} {u : Int} : Rch P n ((i : Int) + 1) → P[i]? = some r → u ∈ r.ps → Rch P n u
def POk (P : List PR) : Prop := ∀ (i : Nat) (r : PR), P[i]? = some r → r.ps.length ≤ 2 ∧ ∀ u ∈ r.ps, 1 ≤ u ∧ u ≤ (i : Int)
theorem POk.nil : POk [] := fun i r h => by simp at h
theorem Rch.rng {P : List PR} {n u : Int} (hP : POk P) (h : Rch P n u) : 1 ≤ u ∧ u ≤ n ∧ 1 ≤ n ∧ n ≤ P.length := by
  induction h with
  | refl h1 h2 => exact ⟨h1, Int.le_refl _, h1, h2⟩
  | step _ hr hu ih => have := (hP _ _ hr).2 _ hu; omega
theorem Rch.trans {P : List PR} {n m u : Int} (h : Rch P n m) (k : Rch P m u) : Rch P n u := by
  induction k with
  | refl _ _ => exact h
  | step _ hr hu ih => exact .step ih hr hu
theorem Rch.head {P : List PR} {n u : Int} (hP : POk P) (h : Rch P n u) : u = n ∨ ∃ (i : Nat) (r : PR) (p : Int), n = (i : Int) + 1 ∧ P[i]? = some r ∧ p ∈ r.ps ∧ Rch P p u := by
  induction h with
  | refl _ _ => exact .inl rfl
  | @step i r u h1 hr hu ih =>
    have h2 := (hP _ _ hr).2 _ hu
    have h3 := (List.getElem?_eq_some_iff.1 hr).1
    rcases ih with e | ⟨i', r', p, e, hr', hp, hk⟩
    · exact .inr ⟨i, r, u, e.symm, hr, hu, .refl h2.1 (by omega)⟩
    · exact .inr ⟨i', r', p, e, hr', hp, .step hk hr hu⟩
theorem Rch.mono {P : List PR} {r : PR} {n u : Int} (h : Rch P n u) : Rch (P ++ [r]) n u := by
  induction h with
  | refl h1 h2 => exact .refl h1 (by simp; omega)
  | step _ hr hu ih => exact .step ih (by rw [List.getElem?_append_left (List.getElem?_eq_some_iff.1 hr).1]; exact hr) hu
theorem POk.snoc {P : List PR} {r : PR} (hP : POk P) (hl : r.ps.length ≤ 2) (h : ∀ u ∈ r.ps, 1 ≤ u ∧ u ≤ (P.length : Int)) : POk (P ++ [r]) := fun i x hx => by
  by_cases hi : i < P.length
  · rw [List.getElem?_append_left hi] at hx; exact hP i x hx
  · have h1 := (List.getElem?_eq_some_iff.1 hx).1
    have h2 : i = P.length := by simp at h1; omega
    subst h2
    simp at hx; subst hx; exact ⟨hl, h⟩
theorem Rch.old {P : List PR} {r : PR} {n u : Int} (hP : POk (P ++ [r])) (hn : n ≤ P.length) (h : Rch (P ++ [r]) n u) : Rch P n u := by
  induction h with
  | refl h1 h2 => exact .refl h1 hn
  | @step i r' u h1 hr hu ih =>
    have h2 := (h1.rng hP).2.1
    rw [List.getElem?_append_left (by omega)] at hr
    exact .step ih hr hu
theorem rch_new {P : List PR} {r : PR} {u : Int} (hP : POk (P ++ [r])) : Rch (P ++ [r]) ((P.length : Int) + 1) u ↔ u = (P.length : Int) + 1 ∨ ∃ p ∈ r.ps, Rch P p u := by
  have hlast : (P ++ [r])[P.length]? = some r := by simp
  constructor
  · intro h
    rcases h.head hP with e | ⟨i, r', p, e, hr, hp, hk⟩
    · exact .inl e
    · have : i = P.length := by omega
      subst this
      rw [hlast] at hr; cases hr
      exact .inr ⟨p, hp, hk.old hP ((hP _ _ hlast).2 p hp).2⟩
  · have h0 : Rch (P ++ [r]) ((P.length : Int) + 1) ((P.length : Int) + 1) := .refl (by omega) (by simp)
    rintro (rfl | ⟨p, hp, hk⟩)
    · exact h0
    · exact (Rch.step h0 hlast hp).trans hk.mono
/-! ### marks -/
theorem bools_eq {l m : List Bool} (hl : l.length = m.length) (h : ∀ (j : Nat) (x y : Bool), l[j]? = some x → m[j]? = some y → (x = true ↔ y = true)) : l = m := by
  refine List.ext_getElem? fun j => ?_
  cases h1 : l[j]? with
  | none => rw [List.getElem?_eq_none_iff] at h1; rw [List.getElem?_eq_none (by omega)]
  | some x =>
    have h2 := (List.getElem?_eq_some_iff.1 h1).1
    have h3 := List.getElem?_eq_getElem (l := m) (i := j) (by omega)
    rw [h3]
    have h4 := h j x _ h1 h3
    cases x <;> cases h5 : m[j] <;> simp_all
def numL (bs : List Bool) : List Int := bs.zipIdx.filterMap fun p => if p.1 = true then some ((p.2 : Int) + 1) else none
theorem numL_snoc {bs : List Bool} {k : Nat} {x : Bool} (h : bs[k]? = some x) : numL (bs.take (k + 1)) = numL (bs.take k) ++ (if x = true then [(k : Int) + 1] else []) := by
  have hl := (List.getElem?_eq_some_iff.1 h).1
  unfold numL
  rw [List.take_add_one, h]
  simp only [Option.toList_some, List.zipIdx_append, List.filterMap_append]
  have : (bs.take k).length = k := by rw [List.length_take]; omega
  rw [this]
  cases x <;> simp
theorem numL_take (bs : List Bool) : ∀ k, k ≤ bs.length → Asc (numL (bs.take k)) ∧ (numL (bs.take k)).length ≤ k ∧ ∀ z, z ∈ numL (bs.take k) ↔ ∃ j : Nat, j < k ∧ bs[j]? = some true ∧ z = (j : Int) + 1
  | 0, _ => ⟨by simp [numL, Asc], by simp [numL], fun z => ⟨fun h => by simp [numL] at h, fun ⟨j, hj, _⟩ => by omega⟩⟩
  | k + 1, hk => by
    obtain ⟨h1, h0, h2⟩ := numL_take bs k (by omega)
    obtain ⟨x, hx⟩ : ∃ x, bs[k]? = some x := ⟨_, List.getElem?_eq_getElem (by omega)⟩
    rw [numL_snoc hx]
    cases x with
    | false =>
      refine ⟨by simpa using h1, by simp; omega, fun z => ?_⟩
      rw [if_neg (by decide), List.append_nil, h2]
      constructor
      · rintro ⟨j, hj, he, e⟩; exact ⟨j, by omega, he, e⟩
      · rintro ⟨j, hj, he, e⟩
        refine ⟨j, ?_, he, e⟩
        rcases Nat.lt_or_ge j k with h | h
        · exact h
        · have : j = k := by omega
          subst this; rw [hx] at he; cases he
    | true =>
      rw [if_pos rfl]
      refine ⟨List.pairwise_append.2 ⟨h1, List.pairwise_singleton _ _, fun a ha b hb => ?_⟩, by simp; omega, fun z => ?_⟩
      · obtain ⟨j, hj, _, e⟩ := (h2 a).1 ha
        rw [List.mem_singleton.1 hb]; omega
      · rw [List.mem_append, List.mem_singleton, h2]
        constructor
        · rintro (⟨j, hj, he, e⟩ | rfl)
          · exact ⟨j, by omega, he, e⟩
          · exact ⟨k, by omega, hx, rfl⟩
        · rintro ⟨j, hj, he, e⟩
          rcases Nat.lt_or_ge j k with h | h
          · exact .inl ⟨j, h, he, e⟩
          · have : j = k := by omega
            subst this; exact .inr e
theorem numL_all (bs : List Bool) : Asc (numL bs) ∧ (numL bs).length ≤ bs.length ∧ ∀ z, z ∈ numL bs ↔ ∃ j : Nat, bs[j]? = some true ∧ z = (j : Int) + 1 := by
  have h := numL_take bs bs.length (Nat.le_refl _)
  rw [List.take_length] at h
  refine ⟨h.1, h.2.1, fun z => ?_⟩
  rw [h.2.2]
  exact ⟨fun ⟨j, _, h1, h2⟩ => ⟨j, h1, h2⟩, fun ⟨j, h1, h2⟩ => ⟨j, (List.getElem?_eq_some_iff.1 h1).1, h1, h2⟩⟩
open Classical in
/-- the marks of the versions that are reachable -/
noncomputable def up (P : List PR) (n : Int) : List Bool := (List.range P.length).map fun i : Nat => decide (Rch P n ((i : Int) + 1))
@[simp] theorem up_len (P : List PR) (n : Int) : (up P n).length = P.length := by simp [up]
open Classical in
theorem up_at {P : List PR} {n : Int} {j : Nat} {x : Bool} (h : (up P n)[j]? = some x) : x = true ↔ Rch P n ((j : Int) + 1) := by
  unfold up at h
  rw [List.getElem?_map] at h
  cases hj : (List.range P.length)[j]? with
  | none => rw [hj] at h; cases h
  | some i =>
    rw [hj] at h
    have hl := (List.getElem?_eq_some_iff.1 hj).2
    rw [List.getElem_range] at hl
    subst hl
    simp at h
    rw [← h, decide_eq_true_eq]
theorem up_eq {P : List PR} {n : Int} {bs : List Bool} (hl : bs.length = P.length) (h : ∀ (j : Nat) (x : Bool), bs[j]? = some x → (x = true ↔ Rch P n ((j : Int) + 1))) : bs = up P n :=
  bools_eq (by simpa using hl) fun j x y hx hy => (h j x hx).trans (up_at hy).symm
theorem up_num {P : List PR} (hP : POk P) (n z : Int) : z ∈ numL (up P n) ↔ Rch P n z := by
  rw [(numL_all _).2.2]
  constructor
  · rintro ⟨j, hj, rfl⟩; exact (up_at hj).1 rfl
  · intro h
    have h1 := h.rng hP
    obtain ⟨x, hx⟩ : ∃ x, (up P n)[(z - 1).toNat]? = some x := ⟨_, List.getElem?_eq_getElem (by rw [up_len]; omega)⟩
    have hz : (((z - 1).toNat : Nat) : Int) + 1 = z := by omega
    have h2 := (up_at hx).2 (by rw [hz]; exact h)
    subst h2
    exact ⟨_, hx, hz.symm⟩
/-! ### the loop of above -/
/-- the versions above i are done, and of those of i the ones in T -/
def Abv (P : List PR) (n i : Int) (T : List Int) (bs : List Bool) : Prop := bs.length = P.length ∧ ∀ (j : Nat) (x : Bool), bs[j]? = some x → (x = true ↔ ((j : Int) + 1 = n ∨ ∃ (i' : Nat) (r : PR), i < i' ∧ P[i']? = some r ∧ Rch P n ((i' : Int) + 1) ∧ (j : Int) + 1 ∈ r.ps) ∨ (Rch P n (i + 1) ∧ (j : Int) + 1 ∈ T))
theorem abv_0 {P : List PR} {n : Int} (hn : ¬ (1 ≤ n ∧ n ≤ P.length)) : Abv P n (P.length - 1) [] (List.replicate P.length false) := by
  refine ⟨by simp, fun j x hx => ?_⟩
  have h1 := (List.getElem?_eq_some_iff.1 hx).1
  have h2 := List.eq_of_mem_replicate (List.mem_of_getElem? hx)
  rw [List.length_replicate] at h1
  subst h2
  refine ⟨fun h => (by cases h), fun h => ?_⟩
  rcases h with (h | ⟨i', r, h3, h4, _⟩) | ⟨_, h⟩
  · omega
  · have := (List.getElem?_eq_some_iff.1 h4).1; omega
  · cases h
theorem abv_1 {P : List PR} {n : Int} (hn : 1 ≤ n ∧ n ≤ P.length) : Abv P n (P.length - 1) [] ((List.replicate P.length false).set (n - 1).toNat true) := by
  refine ⟨by simp, fun j x hx => ?_⟩
  have h1 := (List.getElem?_eq_some_iff.1 hx).1
  rw [List.length_set, List.length_replicate] at h1
  have hno : ¬ ∃ (i' : Nat) (r : PR), (P.length : Int) - 1 < i' ∧ P[i']? = some r ∧ Rch P n ((i' : Int) + 1) ∧ (j : Int) + 1 ∈ r.ps := fun ⟨i', r, h3, h4, _⟩ => by
    have := (List.getElem?_eq_some_iff.1 h4).1; omega
  rw [List.getElem?_set] at hx
  split at hx
  · rename_i he
    rw [if_pos (by rw [List.length_replicate]; omega)] at hx
    cases hx
    exact ⟨fun _ => .inl (.inl (by omega)), fun _ => rfl⟩
  · rename_i he
    have h2 := List.eq_of_mem_replicate (List.mem_of_getElem? hx)
    subst h2
    refine ⟨fun h => (by cases h), fun h => ?_⟩
    rcases h with (h | h) | ⟨_, h⟩
    · omega
    · exact absurd h hno
    · cases h
theorem abv_i {P : List PR} {n : Int} {i : Nat} {T : List Int} {bs : List Bool} {x : Bool} {r : PR} (hP : POk P) (h : Abv P n i T bs) (hr : P[i]? = some r) (hx : bs[i]? = some x) : x = true ↔ Rch P n ((i : Int) + 1) := by
  have hl := (List.getElem?_eq_some_iff.1 hr).1
  rw [h.2 i x hx]
  constructor
  · rintro ((e | ⟨i', r', h1, h2, h3, h4⟩) | ⟨h3, h4⟩)
    · rw [e]; exact .refl (by omega) (by omega)
    · exact .step h3 h2 h4
    · exact h3
  · intro hk
    cases hk with
    | refl h1 h2 => exact .inl (.inl rfl)
    | @step i' r' u h1 h2 h3 =>
      have h4 := (hP _ _ h2).2 _ h3
      exact .inl (.inr ⟨i', r', by omega, h2, h1, h3⟩)
theorem abv_set {P : List PR} {n : Int} {i k : Nat} {bs : List Bool} {r : PR} {u : Int} (hP : POk P) (h : Abv P n i (r.ps.take k) bs) (hr : P[i]? = some r) (hi : Rch P n ((i : Int) + 1)) (hu : r.ps[k]? = some u) : Abv P n i (r.ps.take (k + 1)) (bs.set (u - 1).toNat true) := by
  refine ⟨by rw [List.length_set]; exact h.1, fun j x hx => ?_⟩
  have hub := (hP _ _ hr).2 u (List.mem_of_getElem? hu)
  have hl := (List.getElem?_eq_some_iff.1 hr).1
  rw [List.getElem?_set] at hx
  rw [List.take_add_one, hu]
  split at hx
  · rename_i he
    have e2 : (j : Int) + 1 = u := by omega
    split at hx
    · cases hx
      exact ⟨fun _ => .inr ⟨hi, by rw [e2]; simp⟩, fun _ => rfl⟩
    · cases hx
  · rename_i he
    rw [h.2 j x hx]
    have e2 : (j : Int) + 1 ≠ u := by omega
    constructor
    · rintro (h1 | ⟨h1, h2⟩)
      · exact .inl h1
      · exact .inr ⟨h1, List.mem_append_left _ h2⟩
    · rintro (h1 | ⟨h1, h2⟩)
      · exact .inl h1
      · rcases List.mem_append.1 h2 with h2 | h2
        · exact .inr ⟨h1, h2⟩
        · simp at h2; exact absurd h2 e2
theorem abv_next {P : List PR} {n : Int} {i : Nat} {T : List Int} {bs : List Bool} {r : PR} (h : Abv P n i T bs) (hr : P[i]? = some r) (hT : T = r.ps ∨ ¬ Rch P n ((i : Int) + 1)) : Abv P n ((i : Int) - 1) [] bs := by
  refine ⟨h.1, fun j x hx => ?_⟩
  rw [h.2 j x hx]
  constructor
  · rintro ((e | ⟨i', r', h1, h2, h3, h4⟩) | ⟨h3, h4⟩)
    · exact .inl (.inl e)
    · exact .inl (.inr ⟨i', r', by omega, h2, h3, h4⟩)
    · rcases hT with rfl | hT
      · exact .inl (.inr ⟨i, r, by omega, hr, h3, h4⟩)
      · exact absurd h3 hT
  · rintro ((e | ⟨i', r', h1, h2, h3, h4⟩) | ⟨h3, h4⟩)
    · exact .inl (.inl e)
    · by_cases he : i' = i
      · subst he
        rw [hr] at h2; cases h2
        rcases hT with rfl | hT
        · exact .inr ⟨h3, h4⟩
        · exact absurd h3 hT
      · exact .inl (.inr ⟨i', r', by omega, h2, h3, h4⟩)
    · cases h4
theorem abv_i' {P : List PR} {n i : Int} {k : Nat} {T : List Int} {bs : List Bool} {x : Bool} {r : PR} (hk : i = k) (hP : POk P) (h : Abv P n i T bs) (hr : P[k]? = some r) (hx : bs[k]? = some x) : x = true ↔ Rch P n (i + 1) := by
  subst hk; exact abv_i hP h hr hx
theorem abv_set' {P : List PR} {n i : Int} {k m : Nat} {bs : List Bool} {r : PR} {u : Int} (hk : i = k) (hP : POk P) (h : Abv P n i (r.ps.take m) bs) (hr : P[k]? = some r) (hi : Rch P n (i + 1)) (hu : r.ps[m]? = some u) : Abv P n i (r.ps.take (m + 1)) (bs.set (u - 1).toNat true) := by
  subst hk; exact abv_set hP h hr hi hu
theorem abv_next' {P : List PR} {n i : Int} {k : Nat} {T : List Int} {bs : List Bool} {r : PR} (hk : i = k) (h : Abv P n i T bs) (hr : P[k]? = some r) (hT : T = r.ps ∨ ¬ Rch P n (i + 1)) : Abv P n (i - 1) [] bs := by
  subst hk; exact abv_next h hr hT
theorem abv_end {P : List PR} {n : Int} {bs : List Bool} {i : Int} (hi : i < 0) (h : Abv P n i [] bs) : bs = up P n := up_eq h.1 fun j x hx => by
  have hl := (List.getElem?_eq_some_iff.1 hx).1
  have hl2 := h.1
  rw [h.2 j x hx]
  constructor
  · rintro ((e | ⟨i', r', h1, h2, h3, h4⟩) | ⟨h3, h4⟩)
    · rw [e]; exact .refl (by omega) (by omega)
    · exact .step h3 h2 h4
    · cases h4
  · intro hk
    generalize hz : (j : Int) + 1 = z at hk
    cases hk with
    | refl h1 h2 => exact .inl (.inl rfl)
    | @step i' r' u h1 h2 h3 => exact .inl (.inr ⟨i', r', by omega, h2, h1, h3⟩)
/-! ### the greatest common one; live and present ones -/
noncomputable def comR (P : List PR) (x y : Int) : Int := gcm (numL (up P x)) (numL (up P y))
theorem com_at {P : List PR} {x y : Int} {i : Nat} (h1 : (up P x)[i]? = some true) (h2 : (up P y)[i]? = some true) (h : ∀ j : Nat, i < j → (up P x)[j]? = some true → (up P y)[j]? = some true → False) : comR P x y = (i : Int) + 1 := by
  refine gcm_is (numL_all _).1 ((numL_all _).2.2 _ |>.2 ⟨i, h1, rfl⟩) ((numL_all _).2.2 _ |>.2 ⟨i, h2, rfl⟩) fun z hz hz2 => ?_
  obtain ⟨j, hj, rfl⟩ := ((numL_all _).2.2 z).1 hz
  obtain ⟨j', hj', e⟩ := ((numL_all _).2.2 _).1 hz2
  have : j' = j := by omega
  subst this
  rcases Nat.lt_or_ge i j' with hl | hl
  · exact absurd (h j' hl hj hj') id
  · omega
theorem com_no {P : List PR} {x y : Int} (h : ∀ j : Nat, (up P x)[j]? = some true → (up P y)[j]? = some true → False) : comR P x y = 0 := by
  refine gcm_no fun z hz hz2 => ?_
  obtain ⟨j, hj, rfl⟩ := ((numL_all _).2.2 z).1 hz
  obtain ⟨j', hj', e⟩ := ((numL_all _).2.2 _).1 hz2
  have : j' = j := by omega
  subst this
  exact h j' hj hj'
theorem com_cases {P : List PR} (hP : POk P) (x y : Int) : (comR P x y = 0 ∧ ∀ z, Rch P x z → ¬ Rch P y z) ∨ (Rch P x (comR P x y) ∧ Rch P y (comR P x y) ∧ ∀ z, Rch P x z → Rch P y z → z ≤ comR P x y) := by
  rcases gcm_cases (l := numL (up P x)) (m := numL (up P y)) (numL_all _).1 with ⟨h1, h2⟩ | ⟨h1, h2, h3⟩
  · exact .inl ⟨h1, fun z hz hz2 => h2 z ((up_num hP x z).2 hz) ((up_num hP y z).2 hz2)⟩
  · exact .inr ⟨(up_num hP x _).1 h1, (up_num hP y _).1 h2, fun z hz hz2 => h3 z ((up_num hP x z).2 hz) ((up_num hP y z).2 hz2)⟩
theorem com_rng {P : List PR} (hP : POk P) (x y : Int) : 0 ≤ comR P x y ∧ comR P x y ≤ P.length := by
  rcases com_cases hP x y with ⟨h, _⟩ | ⟨h, _, _⟩
  · omega
  · have := h.rng hP; omega
def liveR (L : List Bool) (n : Int) : Bool := decide (1 ≤ n) && (L[(n - 1).toNat]?).getD false
theorem liveR_at {L : List Bool} {n : Int} {k : Nat} {x : Bool} (hn : n = (k : Int) + 1) (h : L[k]? = some x) : liveR L n = x := by
  subst hn
  unfold liveR
  rw [show ((k : Int) + 1 - 1).toNat = k by omega, h, decide_eq_true (by omega)]; rfl
theorem liveR_no {L : List Bool} {n : Int} (h : ¬ (1 ≤ n ∧ n ≤ L.length)) : liveR L n = false := by
  unfold liveR
  by_cases h1 : 1 ≤ n
  · rw [List.getElem?_eq_none (by omega), Option.getD_none, Bool.and_false]
  · rw [decide_eq_false h1]; rfl
theorem liveR_rng {L : List Bool} {n : Int} (h : liveR L n = true) : 1 ≤ n ∧ n ≤ L.length := by
  refine Decidable.by_contra fun hn => ?_
  rw [liveR_no hn] at h; cases h
/-- a mark of present: found among the pairs before (x, y) -/
def Prs (P : List PR) (L : List Bool) (x y : Int) (bs : List Bool) : Prop := bs.length = P.length ∧ ∀ (j : Nat) (b : Bool), bs[j]? = some b → (b = true ↔ ∃ u v, liveR L u = true ∧ liveR L v = true ∧ u ≤ v ∧ (u < x ∨ u = x ∧ v < y) ∧ comR P u v = (j : Int) + 1)
theorem prs_0 {P : List PR} {L : List Bool} : Prs P L 1 1 (List.replicate P.length false) := by
  refine ⟨by simp, fun j b hb => ?_⟩
  have h2 := List.eq_of_mem_replicate (List.mem_of_getElem? hb)
  subst h2
  refine ⟨fun h => (by cases h), fun ⟨u, v, h1, h2, h3, h4, _⟩ => ?_⟩
  have := liveR_rng h1
  omega
theorem prs_set {P : List PR} {L : List Bool} {x y : Int} {bs : List Bool} (hP : POk P) (h : Prs P L x y bs) (hx : liveR L x = true) (hy : liveR L y = true) (hxy : x ≤ y) (hc : 0 < comR P x y) : Prs P L x (y + 1) (bs.set (comR P x y - 1).toNat true) := by
  refine ⟨by rw [List.length_set]; exact h.1, fun j b hb => ?_⟩
  have hcr := com_rng hP x y
  have hl := h.1
  rw [List.getElem?_set] at hb
  split at hb
  · rename_i he
    split at hb
    · cases hb
      exact ⟨fun _ => ⟨x, y, hx, hy, hxy, by omega, by omega⟩, fun _ => rfl⟩
    · cases hb
  · rename_i he
    rw [h.2 j b hb]
    constructor
    · rintro ⟨u, v, h1, h2, h3, h4, h5⟩; exact ⟨u, v, h1, h2, h3, by omega, h5⟩
    · rintro ⟨u, v, h1, h2, h3, h4, h5⟩
      by_cases hq : u = x ∧ v = y
      · obtain ⟨rfl, rfl⟩ := hq; omega
      · exact ⟨u, v, h1, h2, h3, by omega, h5⟩
theorem prs_skip {P : List PR} {L : List Bool} {x y : Int} {bs : List Bool} (h : Prs P L x y bs) (hn : liveR L y = false ∨ ¬ 0 < comR P x y) : Prs P L x (y + 1) bs := by
  refine ⟨h.1, fun j b hb => ?_⟩
  rw [h.2 j b hb]
  constructor
  · rintro ⟨u, v, h1, h2, h3, h4, h5⟩; exact ⟨u, v, h1, h2, h3, by omega, h5⟩
  · rintro ⟨u, v, h1, h2, h3, h4, h5⟩
    by_cases hq : u = x ∧ v = y
    · obtain ⟨rfl, rfl⟩ := hq
      rcases hn with hn | hn
      · rw [hn] at h2; cases h2
      · omega
    · exact ⟨u, v, h1, h2, h3, by omega, h5⟩
theorem prs_next {P : List PR} {L : List Bool} {x y : Int} {bs : List Bool} (h : Prs P L x y bs) (hn : (L.length : Int) < y ∨ liveR L x = false) : Prs P L (x + 1) (x + 1) bs := by
  refine ⟨h.1, fun j b hb => ?_⟩
  rw [h.2 j b hb]
  constructor
  · rintro ⟨u, v, h1, h2, h3, h4, h5⟩; exact ⟨u, v, h1, h2, h3, by omega, h5⟩
  · rintro ⟨u, v, h1, h2, h3, h4, h5⟩
    refine ⟨u, v, h1, h2, h3, ?_, h5⟩
    have hv := liveR_rng h2
    by_cases hu : u = x
    · subst hu
      rcases hn with hn | hn
      · omega
      · rw [hn] at h1; cases h1
    · omega
open Classical in
noncomputable def pres (P : List PR) (L : List Bool) : List Bool := (List.range P.length).map fun i : Nat => decide (∃ u v, liveR L u = true ∧ liveR L v = true ∧ u ≤ v ∧ comR P u v = (i : Int) + 1)
@[simp] theorem pres_len (P : List PR) (L : List Bool) : (pres P L).length = P.length := by simp [pres]
open Classical in
theorem pres_at {P : List PR} {L : List Bool} {j : Nat} {x : Bool} (h : (pres P L)[j]? = some x) : x = true ↔ ∃ u v, liveR L u = true ∧ liveR L v = true ∧ u ≤ v ∧ comR P u v = (j : Int) + 1 := by
  unfold pres at h
  rw [List.getElem?_map] at h
  cases hj : (List.range P.length)[j]? with
  | none => rw [hj] at h; cases h
  | some i =>
    rw [hj] at h
    have hl := (List.getElem?_eq_some_iff.1 hj).2
    rw [List.getElem_range] at hl
    subst hl
    simp only [Option.map_some, Option.some.injEq] at h
    rw [← h]; exact decide_eq_true_iff
theorem prs_end {P : List PR} {L : List Bool} {x y : Int} {bs : List Bool} (h : Prs P L x y bs) (hx : (L.length : Int) < x) : bs = pres P L := by
  refine bools_eq (by rw [pres_len]; exact h.1) fun j b b' hb hb' => ?_
  rw [h.2 j b hb, pres_at hb']
  constructor
  · rintro ⟨u, v, h1, h2, h3, h4, h5⟩; exact ⟨u, v, h1, h2, h3, h5⟩
  · rintro ⟨u, v, h1, h2, h3, h5⟩
    have := liveR_rng h1
    exact ⟨u, v, h1, h2, h3, by omega, h5⟩
theorem pres_iff {P : List PR} (hP : POk P) (L : List Bool) (z : Int) : liveR (pres P L) z = true ↔ 0 < z ∧ ∃ u v, liveR L u = true ∧ liveR L v = true ∧ u ≤ v ∧ comR P u v = z := by
  constructor
  · intro h
    have h1 := liveR_rng h
    obtain ⟨x, hx⟩ : ∃ x, (pres P L)[(z - 1).toNat]? = some x := ⟨_, List.getElem?_eq_getElem (by omega)⟩
    have hz : z = (((z - 1).toNat : Nat) : Int) + 1 := by omega
    rw [liveR_at hz hx] at h
    obtain ⟨u, v, h2, h3, h4, h5⟩ := (pres_at hx).1 h
    exact ⟨by omega, u, v, h2, h3, h4, by omega⟩
  · rintro ⟨h0, u, v, h2, h3, h4, h5⟩
    have hc := com_rng hP u v
    obtain ⟨x, hx⟩ : ∃ x, (pres P L)[(z - 1).toNat]? = some x := ⟨_, List.getElem?_eq_getElem (by rw [pres_len]; omega)⟩
    have hz : z = (((z - 1).toNat : Nat) : Int) + 1 := by omega
    rw [liveR_at hz hx]
    exact (pres_at hx).2 ⟨u, v, h2, h3, h4, by omega⟩
theorem numL_live (bs : List Bool) (z : Int) : z ∈ numL bs ↔ liveR bs z = true := by
  rw [(numL_all bs).2.2]
  constructor
  · rintro ⟨j, hj, rfl⟩; exact liveR_at rfl hj
  · intro h
    have h1 := liveR_rng h
    obtain ⟨x, hx⟩ : ∃ x, bs[(z - 1).toNat]? = some x := ⟨_, List.getElem?_eq_getElem (by omega)⟩
    have hz : z = (((z - 1).toNat : Nat) : Int) + 1 := by omega
    rw [liveR_at hz hx] at h
    subst h
    exact ⟨_, hx, hz⟩
/-- the present ones of those above -/
theorem and_num {l m out : List Bool} (h1 : l.length = m.length) (h2 : out.length = l.length) (h : ∀ (j : Nat) (x y z : Bool), l[j]? = some x → m[j]? = some y → out[j]? = some z → z = (x && y)) (z : Int) : z ∈ numL out ↔ z ∈ numL l ∧ z ∈ numL m := by
  rw [(numL_all _).2.2, (numL_all _).2.2, (numL_all _).2.2]
  constructor
  · rintro ⟨j, hj, rfl⟩
    have hl := (List.getElem?_eq_some_iff.1 hj).1
    obtain ⟨x, hx⟩ : ∃ x, l[j]? = some x := ⟨_, List.getElem?_eq_getElem (by omega)⟩
    obtain ⟨y, hy⟩ : ∃ y, m[j]? = some y := ⟨_, List.getElem?_eq_getElem (by omega)⟩
    have := h j x y true hx hy hj
    have h5 : x = true ∧ y = true := by revert this; cases x <;> cases y <;> decide
    obtain ⟨rfl, rfl⟩ := h5
    exact ⟨⟨j, hx, rfl⟩, j, hy, rfl⟩
  · rintro ⟨⟨j, hj, rfl⟩, j', hj', e⟩
    have : j' = j := by omega
    subst this
    have hl := (List.getElem?_eq_some_iff.1 hj).1
    obtain ⟨o, ho⟩ : ∃ o, out[j']? = some o := ⟨_, List.getElem?_eq_getElem (by omega)⟩
    have := h j' true true o hj hj' ho
    subst this
    exact ⟨j', ho, rfl⟩
end Go.V
