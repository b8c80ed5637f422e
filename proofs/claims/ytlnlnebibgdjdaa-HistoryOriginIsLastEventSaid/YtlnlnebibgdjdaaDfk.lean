/-
  The differences of two lists of entries, by key.
  Conditions: the keys are ascending.
-/
import Derived.Test.YtlnlnebibgdjdaaPr
namespace Go.V
open Go

theorem lget_nil (z : Int) : lget z [] = none := rfl
theorem lget_cons (z k v : Int) (l : Kvs) : lget z ((k, v) :: l) = if k = z then some v else lget z l := by
  unfold lget
  rw [List.find?_cons]
  by_cases h : k = z
  · rw [if_pos h, decide_eq_true h]; rfl
  · rw [if_neg h, decide_eq_false h]
theorem lget_low {z k v : Int} {l : Kvs} (hs : Srt ((k, v) :: l)) (h : z ≤ k) : lget z l = none := lget_none fun x hx => by
  have h9 : k < x.1 := (List.pairwise_cons.1 hs).1 x hx
  omega
theorem dif_get : ∀ (l r : Kvs), Srt l → Srt r → ∀ z, (∃ c ∈ dif l r, c.2.1 = z) ↔ lget z l ≠ lget z r
  | [], [], _, _, z => by rw [dif]; simp
  | [], (k, w) :: r, hl, hr, z => by
    have ih := dif_get [] r hl (List.pairwise_cons.1 hr).2 z
    rw [dif, lget_cons]
    by_cases h : k = z
    · rw [if_pos h]; exact ⟨fun _ e => (by cases e), fun _ => ⟨_, List.mem_cons_self .., h⟩⟩
    · rw [if_neg h, ← ih]
      constructor
      · rintro ⟨c, hc, e⟩
        rcases List.mem_cons.1 hc with rfl | hc
        · exact absurd e h
        · exact ⟨c, hc, e⟩
      · rintro ⟨c, hc, e⟩; exact ⟨c, List.mem_cons_of_mem _ hc, e⟩
  | (k, v) :: l, [], hl, hr, z => by
    have ih := dif_get l [] (List.pairwise_cons.1 hl).2 hr z
    rw [dif, lget_cons]
    by_cases h : k = z
    · rw [if_pos h]; exact ⟨fun _ e => (by cases e), fun _ => ⟨_, List.mem_cons_self .., h⟩⟩
    · rw [if_neg h, ← ih]
      constructor
      · rintro ⟨c, hc, e⟩
        rcases List.mem_cons.1 hc with rfl | hc
        · exact absurd e h
        · exact ⟨c, hc, e⟩
      · rintro ⟨c, hc, e⟩; exact ⟨c, List.mem_cons_of_mem _ hc, e⟩
  | (k, v) :: l, (k', w) :: r, hl, hr, z => by
    have h1 := (List.pairwise_cons.1 hl).2
    have h2 := (List.pairwise_cons.1 hr).2
    rw [dif]
    have hstep : ∀ {c0 : Chg} {D : List Chg}, c0.2.1 ≠ z → ((∃ c ∈ c0 :: D, c.2.1 = z) ↔ ∃ c ∈ D, c.2.1 = z) := fun {c0 D} hne => by
      constructor
      · rintro ⟨c, hc, e⟩
        rcases List.mem_cons.1 hc with rfl | hc
        · exact absurd e hne
        · exact ⟨c, hc, e⟩
      · rintro ⟨c, hc, e⟩; exact ⟨c, List.mem_cons_of_mem _ hc, e⟩
    split
    · rename_i hlt
      have ih := dif_get l ((k', w) :: r) h1 hr z
      by_cases h : k = z
      · subst h
        rw [lget_cons, if_pos rfl, lget_cons, if_neg (by omega), lget_low hr (by omega)]
        exact ⟨fun _ e => (by cases e), fun _ => ⟨_, List.mem_cons_self .., rfl⟩⟩
      · rw [hstep h, ih, lget_cons z k v l, if_neg h]
    · split
      · rename_i hlt hgt
        have ih := dif_get ((k, v) :: l) r hl h2 z
        by_cases h : k' = z
        · subst h
          rw [lget_cons k' k' w, if_pos rfl, lget_cons, if_neg (by omega), lget_low hl (by omega)]
          exact ⟨fun _ e => (by cases e), fun _ => ⟨_, List.mem_cons_self .., rfl⟩⟩
        · rw [hstep h, ih, lget_cons z k' w r, if_neg h]
      · rename_i hlt hgt
        have hk : k' = k := by omega
        subst hk
        have ih := dif_get l r h1 h2 z
        split
        · rename_i hvw
          by_cases h : k' = z
          · subst h
            rw [lget_cons, if_pos rfl, lget_cons, if_pos rfl]
            exact ⟨fun _ e => hvw (Option.some.inj e), fun _ => ⟨_, List.mem_cons_self .., rfl⟩⟩
          · rw [hstep h, ih, lget_cons z k' v, if_neg h, lget_cons z k' w, if_neg h]
        · rename_i hvw
          have hvw : v = w := Classical.not_not.1 hvw
          subst hvw
          rw [ih, lget_cons z k' v l, lget_cons z k' v r]
          by_cases h : k' = z
          · rw [if_pos h, if_pos h, lget_low hl (by omega), lget_low hr (by omega)]
            exact ⟨fun e => absurd rfl e, fun e => absurd rfl e⟩
          · rw [if_neg h, if_neg h]
  termination_by l r => l.length + r.length
theorem inR_one {l r : Kvs} (hl : Srt l) (hr : Srt r) (k : Int) : inR k k (dif l r) = [] ↔ lget k l = lget k r := by
  have h := dif_get l r hl hr k
  unfold inR
  rw [List.filter_eq_nil_iff]
  constructor
  · intro h1
    refine Classical.not_not.1 fun hn => ?_
    obtain ⟨c, hc, e⟩ := h.2 hn
    exact h1 c hc (by simp; omega)
  · intro h1 c hc h2
    have h3 : k ≤ c.2.1 ∧ c.2.1 ≤ k := by simpa using h2
    exact h.1 ⟨c, hc, by omega⟩ h1
theorem inR_all {l r : Kvs} (hl : Srt l) (hr : Srt r) (lo hi : Int) : inR lo hi (dif l r) = [] ↔ ∀ k, lo ≤ k → k ≤ hi → lget k l = lget k r := by
  unfold inR
  rw [List.filter_eq_nil_iff]
  constructor
  · intro h1 k h2 h3
    refine Classical.not_not.1 fun hn => ?_
    obtain ⟨c, hc, e⟩ := (dif_get l r hl hr k).2 hn
    exact h1 c hc (by simp; omega)
  · intro h1 c hc h2
    have h3 : lo ≤ c.2.1 ∧ c.2.1 ≤ hi := by simpa using h2
    exact (dif_get l r hl hr c.2.1).1 ⟨c, hc, rfl⟩ (h1 _ h3.1 h3.2)
theorem lget_lins {k v : Int} {l : Kvs} (hs : Srt l) (z : Int) : lget z (lins k v l) = if z = k then some v else lget z l := by
  have h := lins_srt (k := k) (v := v) hs
  have hm : ∀ y, (z, y) ∈ lins k v l ↔ (z = k ∧ y = v) ∨ (z ≠ k ∧ (z, y) ∈ l) := fun y => by
    unfold lins
    rw [List.mem_append, List.mem_cons, List.mem_filter, List.mem_filter, decide_eq_true_iff, decide_eq_true_iff, Prod.mk.injEq]
    constructor
    · rintro (⟨h1, h2⟩ | h | ⟨h1, h2⟩)
      · exact .inr ⟨Int.ne_of_lt h2, h1⟩
      · exact .inl h
      · exact .inr ⟨Int.ne_of_gt h2, h1⟩
    · rintro (h | ⟨h1, h2⟩)
      · exact .inr (.inl h)
      · rcases Int.lt_or_gt_of_ne h1 with h3 | h3
        · exact .inl ⟨h2, h3⟩
        · exact .inr (.inr ⟨h2, h3⟩)
  by_cases hz : z = k
  · rw [if_pos hz]; exact (lget_some h).2 ((hm v).2 (.inl ⟨hz, rfl⟩))
  · rw [if_neg hz]
    cases hc : lget z l with
    | some y => exact (lget_some h).2 ((hm y).2 (.inr ⟨hz, (lget_some hs).1 hc⟩))
    | none =>
      cases hd : lget z (lins k v l) with
      | none => rfl
      | some y =>
        rcases (hm y).1 ((lget_some h).1 hd) with h1 | h1
        · exact absurd h1.1 hz
        · rw [(lget_some hs).2 h1.2] at hc; cases hc
end Go.V
