/-
  Maps with 64-bit keys as ascending lists of keys with what stands at them: put, delete, look-up.
  Conditions: none.
-/
import Derived.Test.YtlnlnebibgdjdaaAga
namespace Go.V
open Go Go.RowKit Go.Maps Go.Sort

section
variable {α β : Type}
def pSrt (M : List (Int × β)) : Prop := M.Pairwise fun a b => a.1 < b.1
def pget (k : Int) (M : List (Int × β)) : Option β := (M.find? fun x => decide (x.1 = k)).map (·.2)
def pput (k : Int) (y : β) (M : List (Int × β)) : List (Int × β) := M.filter (fun x => decide (x.1 < k)) ++ (k, y) :: M.filter (fun x => decide (k < x.1))
def pdel (k : Int) (M : List (Int × β)) : List (Int × β) := M.filter fun x => decide (x.1 ≠ k)
theorem pput_srt {k : Int} {y : β} {M : List (Int × β)} (h : pSrt M) : pSrt (pput k y M) := by
  unfold pput
  refine List.pairwise_append.2 ⟨h.sublist List.filter_sublist, List.pairwise_cons.2 ⟨fun y hy => ?_, h.sublist List.filter_sublist⟩, fun x hx y hy => ?_⟩
  · exact of_decide_eq_true (List.mem_filter.1 hy).2
  · have h1 := of_decide_eq_true (List.mem_filter.1 hx).2
    rcases List.mem_cons.1 hy with rfl | hy
    · exact h1
    · have h2 := of_decide_eq_true (List.mem_filter.1 hy).2
      omega
theorem pdel_srt {k : Int} {M : List (Int × β)} (h : pSrt M) : pSrt (pdel k M) := h.sublist List.filter_sublist
theorem pput_mem {k : Int} {y : β} {M : List (Int × β)} (x : Int × β) : x ∈ pput k y M ↔ x = (k, y) ∨ (x ∈ M ∧ x.1 ≠ k) := by
  unfold pput
  rw [List.mem_append, List.mem_cons, List.mem_filter, List.mem_filter, decide_eq_true_iff, decide_eq_true_iff]
  constructor
  · rintro (⟨h1, h2⟩ | h | ⟨h1, h2⟩)
    · exact .inr ⟨h1, by omega⟩
    · exact .inl h
    · exact .inr ⟨h1, by omega⟩
  · rintro (h | ⟨h1, h2⟩)
    · exact .inr (.inl h)
    · by_cases h3 : x.1 < k
      · exact .inl ⟨h1, h3⟩
      · exact .inr (.inr ⟨h1, by omega⟩)
theorem pdel_mem {k : Int} {M : List (Int × β)} (x : Int × β) : x ∈ pdel k M ↔ x ∈ M ∧ x.1 ≠ k := by
  unfold pdel; rw [List.mem_filter, decide_eq_true_iff]
theorem pSrt.nodup {M : List (Int × β)} (h : pSrt M) : M.Nodup := h.imp fun {a b} h e => by rw [e] at h; omega
theorem pget_some {k : Int} {M : List (Int × β)} (hs : pSrt M) {y : β} : pget k M = some y ↔ (k, y) ∈ M := by
  unfold pget
  constructor
  · intro h
    cases hf : M.find? fun x => decide (x.1 = k) with
    | none => rw [hf] at h; cases h
    | some z =>
      rw [hf] at h
      have h1 : z.1 = k := of_decide_eq_true (List.find?_some (p := fun x : Int × β => decide (x.1 = k)) hf)
      simp only [Option.map_some, Option.some.injEq] at h
      have h2 := List.mem_of_find?_eq_some hf
      rw [← h1, ← h]; exact h2
  · intro h
    induction M with
    | nil => cases h
    | cons x t ih =>
      obtain ⟨h1, h2⟩ := List.pairwise_cons.1 hs
      rw [List.find?_cons]
      rcases List.mem_cons.1 h with rfl | h
      · simp
      · have h3 : x.1 < k := h1 _ h
        rw [decide_eq_false (show ¬ x.1 = k by omega)]
        exact ih h2 h
theorem pget_none {k : Int} {M : List (Int × β)} (h : ∀ x ∈ M, x.1 ≠ k) : pget k M = none := by
  unfold pget
  rw [List.find?_eq_none.2 fun x hx e => h x hx (of_decide_eq_true e)]; rfl
theorem pget_ext {k : Int} {M N : List (Int × β)} (hM : pSrt M) (hN : pSrt N) (h : ∀ y, (k, y) ∈ M ↔ (k, y) ∈ N) : pget k M = pget k N := by
  cases hm : pget k M with
  | some y => exact ((pget_some hN).2 ((h y).1 ((pget_some hM).1 hm))).symm
  | none =>
    cases hn : pget k N with
    | none => rfl
    | some y => rw [(pget_some hM).2 ((h y).2 ((pget_some hN).1 hn))] at hm; cases hm
theorem pget_put {k z : Int} {y : β} {M : List (Int × β)} (h : pSrt M) : pget z (pput k y M) = if z = k then some y else pget z M := by
  by_cases hz : z = k
  · subst hz; rw [if_pos rfl]; exact (pget_some (pput_srt h)).2 ((pput_mem _).2 (.inl rfl))
  · rw [if_neg hz]
    exact pget_ext (pput_srt h) h fun w => by
      rw [pput_mem]
      constructor
      · rintro (h1 | h1)
        · exact absurd (congrArg Prod.fst h1) hz
        · exact h1.1
      · intro h1; exact .inr ⟨h1, hz⟩
theorem pget_del {k z : Int} {M : List (Int × β)} (h : pSrt M) : pget z (pdel k M) = if z = k then none else pget z M := by
  by_cases hz : z = k
  · subst hz; rw [if_pos rfl]; exact pget_none fun x hx => ((pdel_mem x).1 hx).2
  · rw [if_neg hz]
    exact pget_ext (pdel_srt h) h fun w => by
      rw [pdel_mem]
      exact ⟨fun h1 => h1.1, fun h1 => ⟨h1, hz⟩⟩
/-- two ascending lists with the same look-ups are one -/
theorem pSrt.ext : ∀ {M N : List (Int × β)}, pSrt M → pSrt N → (∀ z, pget z M = pget z N) → M = N
  | [], [], _, _, _ => rfl
  | [], (k, y) :: N, _, hN, h => by
    have h1 := h k
    rw [(pget_some hN).2 (List.mem_cons_self ..)] at h1; cases h1
  | (k, y) :: M, [], hM, _, h => by
    have h1 := h k
    rw [(pget_some hM).2 (List.mem_cons_self ..)] at h1; cases h1
  | (k, y) :: M, (j, w) :: N, hM, hN, h => by
    obtain ⟨a1, a2⟩ := List.pairwise_cons.1 hM
    obtain ⟨b1, b2⟩ := List.pairwise_cons.1 hN
    have e1 : (k, y) ∈ (j, w) :: N := (pget_some hN).1 ((h k).symm.trans ((pget_some hM).2 (List.mem_cons_self ..)))
    have e2 : (j, w) ∈ (k, y) :: M := (pget_some hM).1 ((h j).trans ((pget_some hN).2 (List.mem_cons_self ..)))
    have hkj : k = j := by
      rcases List.mem_cons.1 e1 with e | e
      · exact congrArg Prod.fst e
      · rcases List.mem_cons.1 e2 with e' | e'
        · exact (congrArg Prod.fst e').symm
        · have h1 : j < k := b1 _ e
          have h2 : k < j := a1 _ e'
          omega
    subst hkj
    have hy : y = w := by
      rcases List.mem_cons.1 e1 with e | e
      · exact congrArg Prod.snd e
      · have h1 : k < k := b1 _ e
        omega
    subst hy
    rw [pSrt.ext a2 b2 fun z => ?_]
    have h1 := h z
    by_cases hz : z = k
    · subst hz
      rw [pget_none fun x hx => by have := a1 x hx; exact Int.ne_of_gt this, pget_none fun x hx => by have := b1 x hx; exact Int.ne_of_gt this]
    · have hc : ∀ L : List (Int × β), pget z ((k, y) :: L) = pget z L := fun L => by
        unfold pget; rw [List.find?_cons, decide_eq_false (fun e : k = z => hz e.symm)]
      rw [hc, hc] at h1; exact h1
/-- what stands in the map is that -/
structure POk (f : α → Value × Value × Nat) (n : α → Int) (g : α → β) (xs : List α) (q : Nat) (M : List (Int × β)) : Prop where
  k : KOk f n xs q
  perm : (xs.map fun x => (n x, g x)).Perm M
  srt : pSrt M
variable {f : α → Value × Value × Nat} {n : α → Int} {g : α → β} {xs : List α} {q : Nat} {M : List (Int × β)}
theorem POk.nil : POk f n g [] 0 [] := ⟨KOk.nil, List.Perm.refl _, List.Pairwise.nil⟩
theorem POk.len (h : POk f n g xs q M) : xs.length = M.length := by rw [← h.perm.length_eq, List.length_map]
theorem POk.mem (h : POk f n g xs q M) (x : Int × β) : x ∈ M ↔ ∃ y ∈ xs, (n y, g y) = x := by rw [← h.perm.mem_iff, List.mem_map]
theorem POk.get (h : POk f n g xs q M) {j : Nat} {x : α} (hx : xs[j]? = some x) : pget (n x) M = some (g x) :=
  (pget_some h.srt).2 ((h.mem _).2 ⟨x, List.mem_of_getElem? hx, rfl⟩)
theorem POk.no (h : POk f n g xs q M) {k : Int} (hx : ∀ x ∈ xs, n x ≠ k) : pget k M = none :=
  pget_none fun x hm => by
    obtain ⟨y, hy, rfl⟩ := (h.mem x).1 hm
    exact hx y hy
theorem KOk.set' {l : List α} (h : KOk f n l q) {j : Nat} {x y : α} (hx : l[j]? = some x) (h1 : n y = n x) (h2 : (f y).1 = (f x).1) (h3 : (f y).2.2 = (f x).2.2) : KOk f n (l.set j y) q := by
  have hj := (List.getElem?_eq_some_iff.1 hx).1
  have hm : ∀ {γ : Type} (g : α → γ), g y = g x → (l.set j y).map g = l.map g := fun g hg => by
    apply List.ext_getElem?
    intro i
    rw [List.getElem?_map, List.getElem?_map, List.getElem?_set]
    split
    · rename_i hij; subst hij
      rw [hx]; simp [hg]
    · rfl
  have hxm := List.mem_of_getElem? hx
  refine ⟨fun z hz => ?_, ?_, fun z hz => ?_, ?_, fun z hz => ?_, by rw [List.length_set]; exact h.num⟩
  · rcases List.mem_or_eq_of_mem_set hz with hz | rfl
    · exact h.key z hz
    · rw [h2, h1]; exact h.key x hxm
  · have := List.pairwise_map.2 h.uniq
    rw [← hm n h1] at this
    exact List.pairwise_map.1 this
  · rcases List.mem_or_eq_of_mem_set hz with hz | rfl
    · exact h.born z hz
    · rw [h3]; exact h.born x hxm
  · rw [hm (fun x => (f x).2.2) h3]; exact h.bnd
  · rcases List.mem_or_eq_of_mem_set hz with hz | rfl
    · exact h.rng z hz
    · rw [h1]; exact h.rng x hxm
theorem POk.ofMem {xs' : List α} {q' : Nat} {M' : List (Int × β)} (hk : KOk f n xs' q') (hs : pSrt M') (hm : ∀ x, (∃ y ∈ xs', (n y, g y) = x) ↔ x ∈ M') : POk f n g xs' q' M' := by
  refine ⟨hk, ?_, hs⟩
  have hn : (xs'.map fun x => (n x, g x)).Nodup := List.pairwise_map.2 (hk.uniq.imp fun {a b} h e => h (congrArg Prod.fst e))
  exact (List.perm_ext_iff_of_nodup hn hs.nodup).2 fun x => by rw [List.mem_map]; exact hm x
theorem POk.set (h : POk f n g xs q M) {j : Nat} {x y : α} (hx : xs[j]? = some x) (h1 : n y = n x) (h2 : (f y).1 = (f x).1) (h3 : (f y).2.2 = (f x).2.2) : POk f n g (xs.set j y) q (pput (n x) (g y) M) := by
  refine POk.ofMem (h.k.set' hx h1 h2 h3) (pput_srt h.srt) fun z => ?_
  rw [pput_mem, h.mem]
  have hj := (List.getElem?_eq_some_iff.1 hx).1
  constructor
  · rintro ⟨u, hu, rfl⟩
    obtain ⟨i, hi⟩ := List.mem_iff_getElem?.1 hu
    rw [List.getElem?_set] at hi
    split at hi
    · rw [← Option.some.inj hi, h1]; exact .inl rfl
    · rename_i hij
      have hil := (List.getElem?_eq_some_iff.1 hi).1
      refine .inr ⟨⟨u, List.mem_of_getElem? hi, rfl⟩, fun e => ?_⟩
      have hu := List.pairwise_iff_getElem.1 h.k.uniq
      have e1 := (List.getElem?_eq_some_iff.1 hi).2
      have e2 := (List.getElem?_eq_some_iff.1 hx).2
      have he : n u = n x := e
      rcases Nat.lt_or_gt_of_ne hij with hlt | hgt
      · exact hu j i hj hil hlt (by rw [e1, e2]; exact he.symm)
      · exact hu i j hil hj hgt (by rw [e1, e2]; exact he)
  · rintro (rfl | ⟨⟨u, hu, rfl⟩, hn⟩)
    · exact ⟨y, List.mem_iff_getElem?.2 ⟨j, by rw [List.getElem?_set, if_pos rfl]; simp [hj]⟩, by rw [h1]⟩
    · obtain ⟨i, hi⟩ := List.mem_iff_getElem?.1 hu
      refine ⟨u, List.mem_iff_getElem?.2 ⟨i, ?_⟩, rfl⟩
      rw [List.getElem?_set, if_neg (fun e => ?_), hi]
      subst e
      rw [hx] at hi
      have := Option.some.inj hi
      subst this
      exact hn rfl
theorem POk.snoc (h : POk f n g xs q M) {y : α} (hk : (f y).1 = .int .i64 (n y)) (hn : ∀ x ∈ xs, n x ≠ n y) (hb : (f y).2.2 = q) (hr : -9223372036854775808 ≤ n y ∧ n y ≤ 9223372036854775807) (hl : xs.length < 4096) : POk f n g (xs ++ [y]) (q + 1) (pput (n y) (g y) M) := by
  refine POk.ofMem (h.k.snoc hk hn hb hr hl) (pput_srt h.srt) fun z => ?_
  rw [pput_mem, h.mem]
  constructor
  · rintro ⟨u, hu, rfl⟩
    rcases List.mem_append.1 hu with hu | hu
    · exact .inr ⟨⟨u, hu, rfl⟩, hn u hu⟩
    · rw [List.mem_singleton.1 hu]; exact .inl rfl
  · rintro (rfl | ⟨⟨u, hu, rfl⟩, _⟩)
    · exact ⟨y, List.mem_append_right _ (List.mem_singleton.2 rfl), rfl⟩
    · exact ⟨u, List.mem_append_left _ hu, rfl⟩
theorem POk.erase (h : POk f n g xs q M) {j : Nat} {x : α} (hx : xs[j]? = some x) : POk f n g (xs.eraseIdx j) q (pdel (n x) M) := by
  refine POk.ofMem (h.k.erase j) (pdel_srt h.srt) fun z => ?_
  rw [pdel_mem, h.mem]
  constructor
  · rintro ⟨u, hu, rfl⟩
    obtain ⟨h1, h2⟩ := (erase_mem' h.k.uniq hx u).1 hu
    exact ⟨⟨u, h1, rfl⟩, h2⟩
  · rintro ⟨⟨u, hu, rfl⟩, hn⟩
    exact ⟨u, (erase_mem' h.k.uniq hx u).2 ⟨hu, hn⟩, rfl⟩
theorem pdel_no {k : Int} {M : List (Int × β)} (h : pget k M = none) : pdel k M = M := by
  unfold pdel
  refine List.filter_eq_self.2 fun x hx => decide_eq_true fun e => ?_
  unfold pget at h
  rw [Option.map_eq_none_iff, List.find?_eq_none] at h
  exact h x hx (decide_eq_true e)
theorem POk.keys (h : POk f n g xs q M) : (M.map (·.1)).Perm (xs.map n) ∧ (M.map (·.1)).Pairwise (· ≤ ·) := by
  refine ⟨?_, List.pairwise_map.2 (h.srt.imp fun {a b} h => by omega)⟩
  have := (h.perm.map (fun x : Int × β => x.1)).symm
  rw [List.map_map] at this
  exact this
end
end Go.V
