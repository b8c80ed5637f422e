/-
  The engine: the keys of a map with 64-bit keys, as the library's contracts want them; any list of entries. No program.
  Conditions: none.
-/
import Derived.Test.YtlnlnebibgdjdaaGm
namespace Go.V
open Go Go.RowKit Go.Maps Go.Sort

/-- entries of a map with 64-bit keys -/
structure KOk {α : Type} (f : α → Value × Value × Nat) (n : α → Int) (xs : List α) (q : Nat) : Prop where
  key : ∀ x ∈ xs, (f x).1 = .int .i64 (n x)
  uniq : xs.Pairwise fun x y => n x ≠ n y
  born : ∀ x ∈ xs, (f x).2.2 < q
  bnd : (xs.map fun x => (f x).2.2).Nodup
  rng : ∀ x ∈ xs, -9223372036854775808 ≤ n x ∧ n x ≤ 9223372036854775807
  num : xs.length ≤ 4096
section
variable {P : Program} {k : TypeId} {α : Type} {f : α → Value × Value × Nat} {n : α → Int}
theorem keys_of (xs : List α) (q : Nat) (h : KOk f n xs q) (hk : P.underlying k = some (.int .i64)) {w : World} {b : Nat} (hb : w.heap[b]? = some (.map (mE (xs.map f)) q)) :
    ∃ D : DataW Unit, w.ownsMap P k noRdI b 4096 D ∧ Maps.size D = xs.length ∧ (intKeys D).Perm (xs.map n) := by
  have hrd : ∀ x : α, x ∈ xs → Go.WideElems.rd P k noRdI ⟨(f x).1, (f x).2.1, (f x).2.2⟩ = some (.int .i64 (n x), .nil) := fun x hx => by
    have h1 := h.rng x hx
    have h2 : (Lit.int .i64 (n x)).wf = true := by
      have e1 : IntKind.i64.min = -9223372036854775808 := by decide
      have e2 : IntKind.i64.max = 9223372036854775807 := by decide
      simp only [Lit.wf, e1, e2, Bool.and_eq_true, decide_eq_true_eq]
      omega
    have h3 : keyOf P k (.int .i64 (n x)) = some (.int .i64 (n x)) := by simp [keyOf, hk, mapKey, h2]
    simp [Go.WideElems.rd, h.key x hx, h3, noRdI]
  have hF : Go.WideElems.Fit P k noRdI (mE (xs.map f)) q := by
    refine ⟨by rw [mE_size, List.length_map]; exact Nat.le_trans h.num (by decide), ⟨?_, ?_, ?_⟩, ?_⟩
    · intro x hx
      simp only [mE_toList, List.map_map, List.mem_map] at hx
      obtain ⟨y, hy, rfl⟩ := hx
      exact h.born y hy
    · rw [mE_toList, List.map_map, List.map_map]
      exact h.bnd
    · rw [mE_toList, List.map_map, List.map_map]
      refine List.pairwise_map.2 (List.Pairwise.imp_of_mem (R := fun x y => n x ≠ n y) (fun {a b} ha hb' hne he => hne ?_) h.uniq)
      simp only [Function.comp_def, h.key a ha, h.key b hb'] at he
      exact (Value.int.inj he).2
    · intro x hx
      simp only [mE_toList, List.map_map, List.mem_map] at hx
      obtain ⟨y, hy, rfl⟩ := hx
      exact ⟨_, hrd y hy⟩
  refine ⟨_, ⟨_, _, hb, hF, by rw [mE_size, List.length_map]; exact h.num, rfl⟩, ?_, ?_⟩
  · rw [Maps.size_eq, (WideShapes.sorted_perm _).length_eq]; simp
  · refine ((WideShapes.sorted_perm _).map _).trans ?_
    rw [mE_toList, List.map_map, List.map_map, List.map_map]
    refine List.Perm.of_eq (List.map_congr_left fun x hx => ?_)
    simp only [Function.comp_def, Go.WideElems.rg, hrd x hx, Option.getD_some, intOf]
theorem ki_key {xs : List α} (h : ∀ x ∈ xs, (f x).1 = .int .i64 (n x)) : ∀ x ∈ xs.map f, MapKept.IsKey (.int .i64) x.1 := fun x hx => by
  obtain ⟨y, hy, rfl⟩ := List.mem_map.1 hx
  rw [h y hy]; rfl
theorem ki_in {xs : List α} (h1 : ∀ x ∈ xs, (f x).1 = .int .i64 (n x)) (hu : xs.Pairwise fun x y => n x ≠ n y) {k : Nat} {x : α} (hx : xs[k]? = some x) : mfind (.int .i64) (.int .i64 (n x)) (xs.map f) = some (some (k, (f x).2.1)) := by
  refine mfind_some (d := .int .i64) (k := .int .i64 (n x)) (b := (f x).2.2) rfl (ki_key h1) (by rw [List.getElem?_map, hx]; show some (f x) = _; rw [← h1 x (List.mem_of_getElem? hx)]) fun j hj y hy => ?_
  rw [List.getElem?_map] at hy
  cases hz : xs[j]? with
  | none => rw [hz] at hy; cases hy
  | some u =>
    rw [hz] at hy
    simp only [Option.map_some, Option.some.injEq] at hy
    subst hy
    intro he
    rw [h1 u (List.mem_of_getElem? hz)] at he
    have he2 : n u = n x := (Value.int.inj he).2
    have hl := (List.getElem?_eq_some_iff.1 hz).1
    have hl2 := (List.getElem?_eq_some_iff.1 hx).1
    refine List.pairwise_iff_getElem.1 hu j k hl hl2 hj ?_
    rw [(List.getElem?_eq_some_iff.1 hz).2, (List.getElem?_eq_some_iff.1 hx).2, he2]
theorem ki_out {xs : List α} (h1 : ∀ x ∈ xs, (f x).1 = .int .i64 (n x)) {m : Int} (h : ∀ x ∈ xs, n x ≠ m) : mfind (.int .i64) (.int .i64 m) (xs.map f) = some none := by
  refine mfind_none (d := .int .i64) (k := .int .i64 m) rfl (ki_key h1) fun x hx => ?_
  obtain ⟨y, hy, rfl⟩ := List.mem_map.1 hx
  rw [h1 y hy]
  intro he
  exact h y hy (Value.int.inj he).2
theorem ki_cases (n : α → Int) (xs : List α) (m : Int) : (∃ (k : Nat) (x : α), xs[k]? = some x ∧ n x = m) ∨ ∀ x ∈ xs, n x ≠ m := by
  by_cases h : ∃ x ∈ xs, n x = m
  · obtain ⟨x, hx, hn⟩ := h
    obtain ⟨k, hk⟩ := List.mem_iff_getElem?.1 hx
    exact .inl ⟨k, x, hk, hn⟩
  · exact .inr fun x hx hn => h ⟨x, hx, hn⟩
theorem KOk.nil : KOk f n [] 0 := ⟨fun _ h => (by cases h), List.Pairwise.nil, fun _ h => (by cases h), List.nodup_nil, fun _ h => (by cases h), by simp⟩
theorem KOk.snoc {xs : List α} {q : Nat} (h : KOk f n xs q) {x : α} (hk : (f x).1 = .int .i64 (n x)) (hn : ∀ y ∈ xs, n y ≠ n x) (hb : (f x).2.2 = q) (hr : -9223372036854775808 ≤ n x ∧ n x ≤ 9223372036854775807) (hl : xs.length < 4096) : KOk f n (xs ++ [x]) (q + 1) := by
  refine ⟨fun y hy => ?_, ?_, fun y hy => ?_, ?_, fun y hy => ?_, by simp; omega⟩
  · rcases List.mem_append.1 hy with hy | hy
    · exact h.key y hy
    · rw [List.mem_singleton.1 hy]; exact hk
  · refine List.pairwise_append.2 ⟨h.uniq, List.pairwise_singleton _ _, fun a ha b hb' => ?_⟩
    rw [List.mem_singleton.1 hb']; exact hn a ha
  · rcases List.mem_append.1 hy with hy | hy
    · exact Nat.lt_succ_of_lt (h.born y hy)
    · rw [List.mem_singleton.1 hy, hb]; exact Nat.lt_succ_self _
  · rw [List.map_append]
    refine List.nodup_append.2 ⟨h.bnd, List.pairwise_singleton _ _, fun a ha b hb' e => ?_⟩
    rw [List.map_singleton, List.mem_singleton] at hb'
    obtain ⟨y, hy, rfl⟩ := List.mem_map.1 ha
    have := h.born y hy
    rw [e, hb', hb] at this; omega
  · rcases List.mem_append.1 hy with hy | hy
    · exact h.rng y hy
    · rw [List.mem_singleton.1 hy]; exact hr
theorem KOk.erase {xs : List α} {q : Nat} (h : KOk f n xs q) (j : Nat) : KOk f n (xs.eraseIdx j) q := by
  have hs := List.eraseIdx_sublist xs j
  exact ⟨fun y hy => h.key y (hs.subset hy), h.uniq.sublist hs, fun y hy => h.born y (hs.subset hy), h.bnd.sublist (hs.map _), fun y hy => h.rng y (hs.subset hy), Nat.le_trans hs.length_le h.num⟩
/-- the keys in their order -/
theorem keysR_ex {xs : List α} {q : Nat} (h : KOk f n xs q) : ∃ ss : List Int, ss.Perm (xs.map n) ∧ (ss.Pairwise fun a b => a < b) ∧ ∀ z, z ∈ ss ↔ ∃ r ∈ xs, n r = z := by
  have hp : ((xs.map n).mergeSort fun x y => decide (x ≤ y)).Perm (xs.map n) := List.mergeSort_perm _ _
  have hs : ((xs.map n).mergeSort fun x y => decide (x ≤ y)).Pairwise (fun a b => decide (a ≤ b) = true) := List.pairwise_mergeSort (fun a b c h1 h2 => by simp at *; omega) (fun a b => by simp; omega) _
  have hd : (xs.map n).Nodup := List.pairwise_map.2 h.uniq
  refine ⟨_, hp, ?_, fun z => by rw [hp.mem_iff, List.mem_map]⟩
  have h1 := (hp.nodup_iff).2 hd
  refine List.Pairwise.imp (fun {a b} h => ?_) (List.Pairwise.and hs h1)
  have h2 := of_decide_eq_true h.1
  have h3 := h.2
  omega
theorem erase_mem' {xs : List α} (hu : xs.Pairwise fun x y => n x ≠ n y) {j : Nat} {u : α} (hj : xs[j]? = some u) (x : α) : x ∈ xs.eraseIdx j ↔ x ∈ xs ∧ n x ≠ n u := by
  induction xs generalizing j with
  | nil => simp at hj
  | cons y ys ih =>
    obtain ⟨h1, h2⟩ := List.pairwise_cons.1 hu
    cases j with
    | zero =>
      simp only [List.getElem?_cons_zero, Option.some.injEq] at hj
      subst hj
      rw [List.eraseIdx_cons_zero, List.mem_cons]
      constructor
      · intro hx; exact ⟨.inr hx, fun e => h1 x hx e.symm⟩
      · rintro ⟨rfl | hx, hn⟩
        · exact absurd rfl hn
        · exact hx
    | succ j =>
      rw [List.getElem?_cons_succ] at hj
      rw [List.eraseIdx_cons_succ, List.mem_cons, List.mem_cons, ih h2 hj]
      constructor
      · rintro (rfl | ⟨hx, hn⟩)
        · exact ⟨.inl rfl, h1 u (List.mem_of_getElem? hj)⟩
        · exact ⟨.inr hx, hn⟩
      · rintro ⟨rfl | hx, hn⟩
        · exact .inl rfl
        · exact .inr ⟨hx, hn⟩
end
end Go.V
