/-
  Plain model: a version released.
  Conditions: none.
-/
import Derived.Test.YtlnlnebibgdjdaaGn
namespace Go.V
open Go Go.RowKit

/-- a graph as a function from numbers -/
structure GF (f : Int → Option (Bool × List Int)) : Prop where
  asc : ∀ z l a, f z = some (l, a) → Asc a
  self : ∀ z l a, f z = some (l, a) → z ∈ a
  le : ∀ z l a, f z = some (l, a) → ∀ u ∈ a, u ≤ z
  pre : ∀ z l a, f z = some (l, a) → ∀ u ∈ a, (f u).isSome = true
  tr : ∀ z l a, f z = some (l, a) → ∀ u ∈ a, ∀ l' a', f u = some (l', a') → ∀ t ∈ a', t ∈ a
theorem vw_some {xs : List VN} {z : Int} {l : Bool} {a : List Int} (h : vw xs z = some (l, a)) : ∃ x, vfind xs z = some x ∧ x.live = l ∧ x.ab = a := by
  unfold vw at h
  cases hf : vfind xs z with
  | none => rw [hf] at h; cases h
  | some x => rw [hf] at h; simp at h; exact ⟨x, rfl, h.1, h.2⟩
theorem vw_mem {xs : List VN} (hu : VUq xs) {x : VN} (hx : x ∈ xs) : vw xs x.n = some (x.live, x.ab) := by unfold vw; rw [vfind_mem hx hu]; rfl
theorem GOk.gf {xs : List VN} {q : Nat} (h : GOk xs q) : GF (vw xs) := by
  refine ⟨fun z l a hz => ?_, fun z l a hz => ?_, fun z l a hz => ?_, fun z l a hz u hu => ?_, fun z l a hz u hu l' a' hu' t ht => ?_⟩
  all_goals obtain ⟨x, hx, rfl, rfl⟩ := vw_some hz
  all_goals obtain ⟨h1, h2⟩ := vfind_some hx
  · exact h.asc x h1
  · subst h2; exact h.self x h1
  · subst h2; exact h.le x h1
  · rw [← pre_vw]; exact h.pre x h1 u hu
  · refine h.tr x h1 u hu t ?_
    rw [ab_vw, hu']; exact ht
theorem GF.gok {xs : List VN} {q : Nat} (h : GF (vw xs)) (hv : VOk xs q) : GOk xs q := by
  refine ⟨hv, fun x hx => ?_, fun x hx => ?_, fun x hx => ?_, fun x hx z hz => ?_, fun x hx z hz u hu => ?_⟩
  · exact h.asc _ _ _ (vw_mem hv.uniq hx)
  · exact h.self _ _ _ (vw_mem hv.uniq hx)
  · exact h.le _ _ _ (vw_mem hv.uniq hx)
  · rw [pre_vw]; exact h.pre _ _ _ (vw_mem hv.uniq hx) z hz
  · rw [ab_vw] at hu
    cases hf : vw xs z with
    | none => rw [hf] at hu; cases hu
    | some p => rw [hf] at hu; exact h.tr _ _ _ (vw_mem hv.uniq hx) z hz p.1 p.2 hf u hu
/-- what is kept of a graph -/
def keep (N : Int → Bool) (f : Int → Option (Bool × List Int)) (z : Int) : Option (Bool × List Int) := if N z = true then (f z).map fun p => (p.1, p.2.filter N) else none
theorem keep_some {N : Int → Bool} {f : Int → Option (Bool × List Int)} {z : Int} {l : Bool} {a : List Int} (h : keep N f z = some (l, a)) : N z = true ∧ ∃ a0, f z = some (l, a0) ∧ a = a0.filter N := by
  unfold keep at h
  split at h
  · rename_i hN
    cases hf : f z with
    | none => rw [hf] at h; cases h
    | some p => rw [hf] at h; simp at h; exact ⟨hN, p.2, by rw [← h.1], h.2.symm⟩
  · cases h
theorem GF.keep {f : Int → Option (Bool × List Int)} (h : GF f) (N : Int → Bool) : GF (keep N f) := by
  refine ⟨fun z l a hz => ?_, fun z l a hz => ?_, fun z l a hz => ?_, fun z l a hz u hu => ?_, fun z l a hz u hu l' a' hu' t ht => ?_⟩
  all_goals obtain ⟨hN, a0, h0, rfl⟩ := keep_some hz
  · exact (h.asc z l a0 h0).sublist List.filter_sublist
  · exact List.mem_filter.2 ⟨h.self z l a0 h0, hN⟩
  · exact fun u hu => h.le z l a0 h0 u (List.mem_filter.1 hu).1
  · obtain ⟨h1, h2⟩ := List.mem_filter.1 hu
    have h3 := h.pre z l a0 h0 u h1
    unfold Go.V.keep
    rw [if_pos h2]
    cases hf : f u with
    | none => rw [hf] at h3; cases h3
    | some p => rfl
  · obtain ⟨_, a1, h1, rfl⟩ := keep_some hu'
    obtain ⟨h2, h3⟩ := List.mem_filter.1 ht
    exact List.mem_filter.2 ⟨h.tr z l a0 h0 u (List.mem_filter.1 hu).1 l' a1 h1 t h2, h3⟩
/-- one version is not live any more -/
def dead (f : Int → Option (Bool × List Int)) (n : Int) (z : Int) : Option (Bool × List Int) := if z = n then (f z).map fun p => (false, p.2) else f z
theorem dead_some {f : Int → Option (Bool × List Int)} {n z : Int} {l : Bool} {a : List Int} (h : dead f n z = some (l, a)) : ∃ l0, f z = some (l0, a) := by
  unfold dead at h
  split at h
  · cases hf : f z with
    | none => rw [hf] at h; cases h
    | some p => rw [hf] at h; simp at h; exact ⟨p.1, by rw [← h.2]⟩
  · exact ⟨l, h⟩
theorem dead_iss (f : Int → Option (Bool × List Int)) (n z : Int) : (dead f n z).isSome = (f z).isSome := by
  unfold dead; split
  · cases f z <;> rfl
  · rfl
theorem GF.dead {f : Int → Option (Bool × List Int)} (h : GF f) (n : Int) : GF (dead f n) := by
  refine ⟨fun z l a hz => ?_, fun z l a hz => ?_, fun z l a hz => ?_, fun z l a hz u hu => ?_, fun z l a hz u hu l' a' hu' t ht => ?_⟩
  all_goals obtain ⟨l0, h0⟩ := dead_some hz
  · exact h.asc z l0 a h0
  · exact h.self z l0 a h0
  · exact h.le z l0 a h0
  · rw [dead_iss]; exact h.pre z l0 a h0 u hu
  · obtain ⟨l1, h1⟩ := dead_some hu'
    exact h.tr z l0 a h0 u hu l1 a' h1 t ht
/-- a release: first the version is dead, then what is needed is kept -/
def RelP (xs : List VN) (n : Int) (xs2 : List VN) : Prop := ∃ (xs1 : List VN) (N : Int → Bool), (∀ z, vw xs1 z = dead (vw xs) n z) ∧ (∀ z, N z = true ↔ needG xs1 z) ∧ ∀ z, vw xs2 z = keep N (vw xs1) z
theorem dead_set {xs : List VN} {k : Nat} {x : VN} (hu : VUq xs) (hx : xs[k]? = some x) : ∀ z, vw (xs.set k (VN.mk x.n false x.ab x.a x.c x.born)) z = dead (vw xs) x.n z := fun z => by
  rw [vw_set (u' := VN.mk x.n false x.ab x.a x.c x.born) hu hx rfl]
  unfold dead
  split
  · rename_i he; subst he; rw [vw_mem hu (List.mem_of_getElem? hx)]; rfl
  · rfl
/-- half way through the loop -/
def half (N : Int → Bool) (f : Int → Option (Bool × List Int)) (D : List Int) (z : Int) : Option (Bool × List Int) := if z ∈ D then keep N f z else f z
theorem half_del {N : Int → Bool} {f : Int → Option (Bool × List Int)} {ss : List Int} {k : Nat} {n : Int} {cur : List VN} {j : Nat} {u : VN} (hu : VUq cur) (hj : cur[j]? = some u) (hn : u.n = n) (hk : ss[k]? = some n) (h : ∀ z, vw cur z = half N f (ss.take k) z) (hN : N n = false) :
    ∀ z, vw (cur.eraseIdx j) z = half N f (ss.take (k + 1)) z := fun z => by
  subst hn
  rw [vw_erase hu hj, h]
  unfold half
  rw [List.take_add_one, hk]
  by_cases hz : z = u.n
  · subst hz
    rw [if_pos rfl, if_pos (by simp)]
    unfold keep
    rw [if_neg (by rw [hN]; decide)]
  · rw [if_neg hz]
    have : (z ∈ ss.take k ++ (some u.n).toList) ↔ z ∈ ss.take k := by simp [hz]
    by_cases hm : z ∈ ss.take k
    · rw [if_pos hm, if_pos (this.2 hm)]
    · rw [if_neg hm, if_neg (fun h => hm (this.1 h))]
theorem half_set {N : Int → Bool} {f : Int → Option (Bool × List Int)} {ss : List Int} {k : Nat} {n : Int} {cur : List VN} {j : Nat} {u u' : VN} (hu : VUq cur) (hj : cur[j]? = some u) (hn : u.n = n) (hk : ss[k]? = some n) (h : ∀ z, vw cur z = half N f (ss.take k) z) (hN : N n = true) (hnk : n ∉ ss.take k) (hu1 : u'.n = u.n) (hu2 : u'.live = u.live) (hu3 : u'.ab = u.ab.filter N) :
    ∀ z, vw (cur.set j u') z = half N f (ss.take (k + 1)) z := fun z => by
  subst hn
  have h0 := h u.n
  rw [vw_mem hu (List.mem_of_getElem? hj)] at h0
  unfold half at h0
  rw [if_neg hnk] at h0
  rw [vw_set hu hj hu1, h]
  unfold half
  rw [List.take_add_one, hk]
  by_cases hz : z = u.n
  · subst hz
    rw [if_pos rfl, if_pos (by simp)]
    unfold keep
    rw [if_pos hN, ← h0, hu2, hu3]; rfl
  · rw [if_neg hz]
    have : (z ∈ ss.take k ++ (some u.n).toList) ↔ z ∈ ss.take k := by simp [hz]
    by_cases hm : z ∈ ss.take k
    · rw [if_pos hm, if_pos (this.2 hm)]
    · rw [if_neg hm, if_neg (fun h => hm (this.1 h))]
theorem half_end {N : Int → Bool} {xs1 : List VN} {ss : List Int} (hK : Keys xs1 ss) (z : Int) : half N (vw xs1) ss z = keep N (vw xs1) z := by
  unfold half
  by_cases hm : z ∈ ss
  · rw [if_pos hm]
  · rw [if_neg hm]
    have h1 : vw xs1 z = none := by
      cases hv : vw xs1 z with
      | none => rfl
      | some p => exact absurd ((hK.mem z).2 (by rw [pre_vw, hv]; rfl)) hm
    unfold keep
    rw [h1]; split <;> rfl
theorem half_at {N : Int → Bool} {xs1 cur : List VN} {ss : List Int} (hK : Keys xs1 ss) {k : Nat} {n : Int} (hn : ss[k]? = some n) (h : ∀ z, vw cur z = half N (vw xs1) (ss.take k) z) : n ∉ ss.take k ∧ ∃ (j : Nat) (u : VN), cur[j]? = some u ∧ u.n = n ∧ vw xs1 n = some (u.live, u.ab) := by
  have h1 : n ∉ ss.take k := fun hm => by have := take_lt hK.asc hn n hm; omega
  refine ⟨h1, ?_⟩
  have h2 := h n
  unfold half at h2
  rw [if_neg h1] at h2
  have h3 : (vw xs1 n).isSome = true := by rw [← pre_vw]; exact (hK.mem n).1 (List.mem_of_getElem? hn)
  rw [← h2] at h3
  cases hv : vw cur n with
  | none => rw [hv] at h3; cases h3
  | some p =>
    obtain ⟨x, hx, e1, e2⟩ := vw_some (l := p.1) (a := p.2) hv
    obtain ⟨hm, hxn⟩ := vfind_some hx
    obtain ⟨j, hj⟩ := List.mem_iff_getElem?.1 hm
    exact ⟨j, x, hj, hxn, by rw [← h2, hv, e1, e2]⟩
theorem St.shsMap {α : Type} {f : α → List HP} {zs zs' : List α} {g w : World} {L : List HP} (h : St g (Shs f zs :: L) w) (hs : ∀ z ∈ zs', ∃ y ∈ zs, f z = f y) : St g (Shs f zs' :: L) w := h.impl fun _ _ hh z hz => by
  obtain ⟨y, hy, e⟩ := hs z hz
  rw [e]; exact hh y hy
end Go.V
