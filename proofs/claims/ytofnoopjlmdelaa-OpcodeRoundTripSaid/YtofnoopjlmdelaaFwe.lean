/-
  Plain law: operations one after the other.
  Conditions: none.
-/
import Derived.Test.YtofnoopjlmdelaaFwd
namespace Go.V
open Go

theorem only_zero (x : OpM) : zeroOp (only x) := by
  have hc : (only x).code = x.code := setFs_code
  unfold zeroOp
  rw [hc]
  unfold only
  refine ⟨fun h => ?_, fun h => ?_, fun h => ?_, fun h => ?_, fun h => ?_, fun h => ?_, fun h => ?_, fun h => ?_, fun h => ?_, fun h => ?_, fun h => ?_, fun h => ?_⟩
  · rw [setFs_A, if_neg h]; rfl
  · rw [setFs_B, if_neg h]; rfl
  · rw [setFs_K, if_neg h]; rfl
  · rw [setFs_V, if_neg h]; rfl
  · rw [setFs_L, if_neg h]; rfl
  · rw [setFs_H, if_neg h]; rfl
  · rw [setFs_N, if_neg h]; rfl
  · rw [setFs_F, if_neg h]; rfl
  · rw [setFs_S, if_neg h]; rfl
  · rw [setFs_Y, if_neg h]; rfl
  · rw [setFs_E, if_neg h]; rfl
  · rw [setFs_C, if_neg h]; rfl
theorem tidy_ok {x : OpM} (hs : smallOp x) : okOp (tidy x) := by
  refine ⟨?_, tidy_L hs, fun c hc => ?_, only_zero _⟩
  · have : (tidy x).code = 1 + x.code % 35 := setFs_code
    rw [isOp, this]; exact decide_eq_true (by omega)
  · unfold tidy only at hc
    rw [setFs_C] at hc
    split at hc
    · exact kind256_8 _ c hc
    · cases hc
def eAll (l : List OpZ) : List Int := l.flatMap fun z => eOp (tidy z.m)
theorem eAll_len {l : List OpZ} (h : ∀ z ∈ l, OpT z.m) (hs : ∀ z ∈ l, smallOp z.m) : (eAll l).length ≤ 20000 * l.length := fm_len fun z hz => (tidy_len (h z hz) (hs z hz)).2
theorem eAll_B8 {l : List OpZ} (h : ∀ z ∈ l, OpT z.m) : B8 (eAll l) := fun x hx => by
  obtain ⟨z, hz, hx⟩ := List.mem_flatMap.1 hx
  exact eOp_B8 (tidy_T (h z hz)).by_ x hx
theorem eAll_take {l : List OpZ} {k : Nat} {z : OpZ} (h : l[k]? = some z) : eAll (l.take (k + 1)) = eAll (l.take k) ++ eOp (tidy z.m) := fm_take _ h
theorem eAll_at {l : List OpZ} {k : Nat} {z : OpZ} (h : l[k]? = some z) : ∃ r, eAll l = eAll (l.take k) ++ (eOp (tidy z.m) ++ r) :=
  ⟨eAll (l.drop (k + 1)), by rw [← List.append_assoc, ← eAll_take h, eAll, eAll, eAll, ← List.flatMap_append, List.take_append_drop]⟩
theorem mem_take_succ {α : Type} {p : α → Prop} {l : List α} {k : Nat} {z : α} (h : l[k]? = some z) (h1 : ∀ y ∈ l.take k, p y) (h2 : p z) : ∀ y ∈ l.take (k + 1), p y := fun y hy => by
  rw [List.take_add_one, h] at hy
  rcases List.mem_append.1 hy with hy | hy
  · exact h1 y hy
  · simp at hy; subst hy; exact h2
/-- reading the k-th -/
theorem all_f {l : List OpZ} {k : Nat} {z : OpZ} (h : l[k]? = some z) (hT : OpT z.m) (hs : smallOp z.m) {us : List Int} (hu : us = eAll l) {p : Nat} (hp : p = (eAll (l.take k)).length) :
    p + (eOp (tidy z.m)).length ≤ us.length ∧ rNx us (p : Int) = (tidy z.m, ((p + (eOp (tidy z.m)).length : Nat) : Int), 0) ∧ ∀ m, m < (eOp (tidy z.m)).length → (rNx (us.take (p + m)) (p : Int)).2 = (0, 12) := by
  obtain ⟨r, hr⟩ := eAll_at h
  have hl : us.length = p + ((eOp (tidy z.m)).length + r.length) := by rw [hu, hr, hp]; simp
  have hd : us.drop p = eOp (tidy z.m) ++ r := by rw [hu, hr, hp, List.drop_left]
  refine ⟨by omega, nx_f (tidy_T hT).w (tidy_ok hs) (by omega) (by rw [hd]; exact List.prefix_append _ _), fun m hm => ?_⟩
  refine nx_t (tidy_T hT).w (tidy_ok hs) (by simp; omega) ?_ (by simp; omega)
  rw [List.drop_take, hd, show p + m - p = m by omega, List.take_append_of_le_length (by omega)]
  exact List.take_prefix _ _
end Go.V
