/-
  Plain law: the reference's valid names are the program's.
  Conditions: none.
-/
import Derived.Test.YtenkmjbghbegfaaDoorVnm
namespace Go.V
open Go

/-- one byte of a name, as the reference asks it -/
def chk (l : List Int) (k : Nat) : Prop := if k = 0 ∨ l.getD (k - 1) 0 = 47 then ini (l.getD k 0) else (l.getD k 0 = 47 ∨ ins (l.getD k 0))
instance (l : List Int) (k : Nat) : Decidable (chk l k) := by unfold chk; infer_instance
def okRef (l : List Int) : Prop := (1 ≤ l.length ∧ l.length ≤ 32) ∧ l.getD (l.length - 1) 0 ≠ 47 ∧ ∀ k, k < l.length → chk l k
instance (l : List Int) : Decidable (okRef l) := by unfold okRef; infer_instance
/-- byte by byte; f: does a part begin here -/
def go : Bool → List Int → Prop
  | f, [] => f = false
  | true, c :: r => ini c ∧ go false r
  | false, c :: r => if c = 47 then go true r else ins c ∧ go false r
theorem ini_47 {c : Int} (h : ini c) : c ≠ 47 := fun e => by subst e; revert h; decide
theorem ins_47 {c : Int} (h : ins c) : c ≠ 47 := fun e => by subst e; revert h; decide
theorem go_prt : ∀ l : List Int, (go true l ↔ ∀ p ∈ prt l, okPart p) ∧ (go false l ↔ (∀ x ∈ (prt l).headD [], ins x) ∧ ∀ p ∈ (prt l).tail, okPart p)
  | [] => by
    constructor
    · constructor
      · intro h; exact absurd h (by simp [go])
      · intro h; exact absurd (h [] (by simp [prt])) id
    · constructor
      · intro _; exact ⟨fun x hx => (by simp [prt] at hx), fun x hx => (by simp [prt] at hx)⟩
      · intro _; exact rfl
  | c :: l => by
    obtain ⟨h1, h2⟩ := go_prt l
    by_cases hc : c = 47
    · subst hc
      have hp : prt (47 :: l) = [] :: prt l := by rw [prt, if_pos rfl]
      rw [hp]
      refine ⟨⟨fun h => absurd rfl (ini_47 h.1), fun h => absurd (h [] (List.mem_cons_self ..)) id⟩, ?_⟩
      rw [go, if_pos rfl, h1]
      exact ⟨fun h => ⟨fun _ hx => (by cases hx), h⟩, fun h => h.2⟩
    · have hp : prt (c :: l) = (c :: (prt l).headD []) :: (prt l).tail := by rw [prt, if_neg hc]
      rw [hp]
      constructor
      · rw [go, h2]
        exact ⟨fun ⟨a, b, d⟩ p hp => by
          rcases List.mem_cons.1 hp with rfl | hp
          · exact ⟨a, b⟩
          · exact d p hp, fun h => ⟨(h _ (List.mem_cons_self ..)).1, (h _ (List.mem_cons_self ..)).2, fun p hp => h p (List.mem_cons_of_mem _ hp)⟩⟩
      · rw [go, if_neg hc, h2]
        simp only [List.headD_cons, List.tail_cons, List.forall_mem_cons]
        exact ⟨fun ⟨a, b, d⟩ => ⟨⟨a, b⟩, d⟩, fun ⟨⟨a, b⟩, d⟩ => ⟨a, b, d⟩⟩
/-- one byte, a part beginning at the first one or not -/
def chkF (f : Bool) (l : List Int) (k : Nat) : Prop := if (k = 0 ∧ f = true) ∨ (k ≠ 0 ∧ l.getD (k - 1) 0 = 47) then ini (l.getD k 0) else (l.getD k 0 = 47 ∨ ins (l.getD k 0))
theorem chkF_succ {f : Bool} {c : Int} {l : List Int} {k : Nat} : chkF f (c :: l) (k + 1) ↔ chkF (decide (c = 47)) l k := by
  unfold chkF
  cases k with
  | zero => simp
  | succ k => simp
theorem all_succ {p : Nat → Prop} {n : Nat} : (∀ k, k < n + 1 → p k) ↔ p 0 ∧ ∀ k, k < n → p (k + 1) :=
  ⟨fun h => ⟨h 0 (by omega), fun k hk => h (k + 1) (by omega)⟩, fun ⟨h0, h⟩ k hk => by
    cases k with
    | zero => exact h0
    | succ k => exact h k (by omega)⟩
theorem go_chk : ∀ (l : List Int) (f : Bool), go f l ↔ ((l = [] → f = false) ∧ (l ≠ [] → l.getD (l.length - 1) 0 ≠ 47) ∧ ∀ k, k < l.length → chkF f l k)
  | [], f => by simp [go]
  | c :: l, f => by
    have ih := go_chk l (decide (c = 47))
    have hlast : l ≠ [] → (c :: l).getD ((c :: l).length - 1) 0 = l.getD (l.length - 1) 0 := fun h => by
      obtain ⟨n, hn⟩ : ∃ n, l.length = n + 1 := ⟨l.length - 1, by have := List.length_pos_iff.2 h; omega⟩
      simp [hn]
    have h0 : chkF f (c :: l) 0 ↔ if f = true then ini c else (c = 47 ∨ ins c) := by unfold chkF; simp
    have hg : go f (c :: l) ↔ (if f = true then ini c else (c = 47 ∨ ins c)) ∧ go (decide (c = 47)) l := by
      cases f with
      | true =>
        rw [go, if_pos rfl]
        constructor
        · exact fun ⟨a, b⟩ => ⟨a, by rwa [decide_eq_false (ini_47 a)]⟩
        · exact fun ⟨a, b⟩ => ⟨a, by rwa [decide_eq_false (ini_47 a)] at b⟩
      | false =>
        rw [if_neg (show ¬ (false = true) by decide)]
        by_cases hc : c = 47
        · rw [go, if_pos hc, decide_eq_true hc]; exact ⟨fun h => ⟨.inl hc, h⟩, fun h => h.2⟩
        · rw [go, if_neg hc, decide_eq_false hc]; exact ⟨fun ⟨a, b⟩ => ⟨.inr a, b⟩, fun ⟨a, b⟩ => ⟨a.resolve_left hc, b⟩⟩
    rw [hg, ih, List.length_cons, all_succ, h0]
    simp only [chkF_succ]
    constructor
    · rintro ⟨a, b, d, e⟩
      refine ⟨fun h => (by cases h), fun _ => ?_, a, e⟩
      by_cases hl : l = []
      · subst hl
        have := b rfl
        simpa using this
      · have := hlast hl
        rw [List.length_cons] at this
        rw [this]; exact d hl
    · rintro ⟨_, b, a, e⟩
      refine ⟨a, fun hl => ?_, fun hl => ?_, e⟩
      · subst hl
        have := b (by simp)
        simpa using this
      · have h9 := b (by simp)
        have := hlast hl
        rw [List.length_cons] at this
        rw [this] at h9; exact h9
theorem ok_ref (l : List Int) : okRef l ↔ okName l := by
  unfold okName
  rw [← (go_prt l).1, go_chk l true]
  have hk : ∀ k, chkF true l k ↔ chk l k := fun k => by
    unfold chkF chk
    cases k with
    | zero => simp
    | succ k => simp
  simp only [hk]
  unfold okRef
  constructor
  · rintro ⟨⟨a, b⟩, d, e⟩
    exact ⟨b, fun h => (by subst h; simp at a), fun _ => d, e⟩
  · rintro ⟨b, a, d, e⟩
    have hl : l ≠ [] := fun h => by have := a h; cases this
    exact ⟨⟨List.length_pos_iff.2 hl, b⟩, d hl, e⟩
theorem ok_eq (l : List Int) : (decide (okName l) == decide (okRef l)) = true := by
  have : decide (okName l) = decide (okRef l) := decide_eq_decide.2 (ok_ref l).symm
  rw [this]; simp
theorem at_getD {l : List Int} {k : Nat} (h : k < l.length) : l[k]? = some (l.getD k 0) := by
  rw [List.getD_eq_getElem?_getD, List.getElem?_eq_getElem h]; rfl
theorem getD_b {l : List Int} (h : B8 l) {k : Nat} (hk : k < l.length) : 0 ≤ l.getD k 0 ∧ l.getD k 0 ≤ 255 := h _ (List.mem_of_getElem? (at_getD hk))
end Go.V
