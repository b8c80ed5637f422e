/-
  Plain model: which names are valid, by parts and by bytes.
  Conditions: none.
-/
import Derived.Test.YtenkmjbghbegfaaDoorSpm
namespace Go.V
open Go

def ini (c : Int) : Prop := (97 ≤ c ∧ c ≤ 122) ∨ (48 ≤ c ∧ c ≤ 57)
instance (c : Int) : Decidable (ini c) := by unfold ini; infer_instance
def ins (c : Int) : Prop := ini c ∨ c = 45 ∨ c = 95 ∨ c = 46
instance (c : Int) : Decidable (ins c) := by unfold ins; infer_instance
def okPart : List Int → Prop
  | [] => False
  | c :: r => ini c ∧ ∀ x ∈ r, ins x
instance : (p : List Int) → Decidable (okPart p)
  | [] => instDecidableFalse
  | c :: r => by unfold okPart; infer_instance
def okName (l : List Int) : Prop := l.length ≤ 32 ∧ ∀ p ∈ prt l, okPart p
instance (l : List Int) : Decidable (okName l) := by unfold okName; infer_instance
theorem prt_B8 : ∀ (l : List Int), B8 l → ∀ p ∈ prt l, B8 p ∧ p.length ≤ l.length
  | [], _, p, hp => by simp [prt] at hp; subst hp; exact ⟨fun _ h => (by cases h), Nat.le_refl _⟩
  | x :: l, h, p, hp => by
    have ih := prt_B8 l (fun y hy => h y (List.mem_cons_of_mem _ hy))
    unfold prt at hp
    split at hp
    · rcases List.mem_cons.1 hp with rfl | hp
      · exact ⟨fun _ h => (by cases h), Nat.zero_le _⟩
      · exact ⟨(ih p hp).1, Nat.le_succ_of_le (ih p hp).2⟩
    · cases hq : prt l with
      | nil => exact absurd hq (prt_ne l)
      | cons q r =>
        rw [hq] at hp ih
        simp only [List.headD_cons, List.tail_cons] at hp
        rcases List.mem_cons.1 hp with rfl | hp
        · have := ih q (List.mem_cons_self ..)
          refine ⟨fun y hy => ?_, by simp only [List.length_cons]; omega⟩
          rcases List.mem_cons.1 hy with rfl | hy
          · exact h _ (List.mem_cons_self ..)
          · exact this.1 y hy
        · have := ih p (List.mem_cons_of_mem _ hp)
          exact ⟨this.1, Nat.le_succ_of_le this.2⟩
/-- a part, read byte by byte -/
theorem okPart_of {p : List Int} {c : Int} (h0 : p[0]? = some c) (hi : ini c) (h : ∀ q, 1 ≤ q → q < p.length → ∀ x, p[q]? = some x → ins x) : okPart p := by
  cases p with
  | nil => cases h0
  | cons d r =>
    simp only [List.getElem?_cons_zero, Option.some.injEq] at h0
    subst h0
    refine ⟨hi, fun x hx => ?_⟩
    obtain ⟨q, hq⟩ := List.mem_iff_getElem?.1 hx
    have := (List.getElem?_eq_some_iff.1 hq).1
    exact h (q + 1) (by omega) (by simp only [List.length_cons]; omega) x (by simpa using hq)
theorem okPart_ini {p : List Int} {c : Int} (h0 : p[0]? = some c) (h : okPart p) : ini c := by
  cases p with
  | nil => cases h0
  | cons d r => simp only [List.getElem?_cons_zero, Option.some.injEq] at h0; subst h0; exact h.1
theorem okPart_ins {p : List Int} {q : Nat} {x : Int} (hq : 1 ≤ q) (h0 : p[q]? = some x) (h : okPart p) : ins x := by
  cases p with
  | nil => cases h0
  | cons d r =>
    obtain ⟨q, rfl⟩ : ∃ k, q = k + 1 := ⟨q - 1, by omega⟩
    exact h.2 x (List.mem_of_getElem? (by simpa using h0))
theorem okPart_e {p : List Int} (h : sb (mkS p) = p) (he : mkS p = ⟨#[]⟩) : ¬ okPart p := by
  rw [← h, he]; exact id
theorem ins_no {x : Int} (h : ((¬ ini x ∧ x ≠ 45) ∧ x ≠ 95) ∧ x ≠ 46) : ¬ ins x := fun k => by
  obtain ⟨⟨⟨h1, h2⟩, h3⟩, h4⟩ := h
  rcases k with k | k | k | k
  · exact h1 k
  · exact h2 k
  · exact h3 k
  · exact h4 k
theorem ins_yes {x : Int} (h : ¬ (((¬ ini x ∧ x ≠ 45) ∧ x ≠ 95) ∧ x ≠ 46)) : ins x := by
  by_cases k : ins x
  · exact k
  · unfold ins at k
    exact absurd ⟨⟨⟨fun q => k (.inl q), fun q => k (.inr (.inl q))⟩, fun q => k (.inr (.inr (.inl q)))⟩, fun q => k (.inr (.inr (.inr q)))⟩ h
theorem okName_no {l : List Int} {k : Nat} {p : List Int} (hp : (prt l)[k]? = some p) (h : ¬ okPart p) : ¬ okName l := fun hn => h (hn.2 p (List.mem_of_getElem? hp))
end Go.V
