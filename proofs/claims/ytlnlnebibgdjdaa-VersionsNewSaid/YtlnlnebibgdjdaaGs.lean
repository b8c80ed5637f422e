/-
  The graph: sets of numbers as maps; tables seen as functions; versions taken out and changed.
  Conditions: none.
-/
import Derived.Test.YtlnlnebibgdjdaaGc
import Derived.Test.YtlnlnebibgdjdaaFnv
namespace Go.V
open Go Go.RowKit

def inB (ns : List (Int × Nat)) (k : Int) : Bool := ns.any fun x => decide (x.1 = k)
theorem inB_iff {ns : List (Int × Nat)} {k : Int} : inB ns k = true ↔ ∃ x ∈ ns, x.1 = k := by
  unfold inB
  rw [List.any_eq_true]
  exact ⟨fun ⟨x, hx, h⟩ => ⟨x, hx, of_decide_eq_true h⟩, fun ⟨x, hx, h⟩ => ⟨x, hx, decide_eq_true h⟩⟩
theorem b_find {ns : List (Int × Nat)} (hu : BUq ns) (k : Int) : (∃ j : Nat, inB ns k = true ∧ (∃ b, ns[j]? = some (k, b)) ∧ mfind (.int .i64) (.int .i64 k) (ns.map bK) = some (some (j, .bool true))) ∨ (inB ns k = false ∧ (∀ x ∈ ns, x.1 ≠ k) ∧ mfind (.int .i64) (.int .i64 k) (ns.map bK) = some none) := by
  rcases b_cases ns k with ⟨j, x, hx, rfl⟩ | hn
  · exact .inl ⟨j, inB_iff.2 ⟨x, List.mem_of_getElem? hx, rfl⟩, ⟨x.2, hx⟩, b_in hx hu⟩
  · refine .inr ⟨?_, hn, b_out hn⟩
    cases h : inB ns k with
    | false => rfl
    | true => obtain ⟨x, hx, he⟩ := inB_iff.1 h; exact absurd he (hn x hx)
section
variable {P : Program} {T : Tab} [hT : TabOk P T] {n : Nat} {os l : List Oper} {K : Kt} {F : Fm} {w g : World} {L : List HP} {t kt et : TypeId} {b c : Nat}
/-- is a number in a set -/
theorem WL.lkB {o : Oper} {x y : Operand} {k : Int} {ns : List (Int × Nat)} (hg : o.guard = none) (ho : o.op = .lookup t x y false) (hM : MapT P t kt (.int .i64) et (.bool false)) (i : Nat) (hS : St g L w) (hi : L[i]? = some (blk b (.map (mE (ns.map bK)) c))) (hx : ev F x = .map (some b)) (hy : ev F y = .int .i64 k) (hu : BUq ns)
    (hk : WL P n os l K (updo F o.dst (.bool (inB ns k))) w) : WL P n os (o :: l) K F w := by
  rcases b_find hu k with ⟨j, h1, _, h3⟩ | ⟨h1, _, h3⟩
  · exact WL.lk hg ho hM i hS hi hx hy rfl h3 (v := .bool (inB ns k)) (by rw [h1]; rfl) hk
  · exact WL.lk hg ho hM i hS hi hx hy rfl h3 (v := .bool (inB ns k)) (by rw [h1]; rfl) hk
/-- a number put into a set -/
theorem WL.muB {o : Oper} {x y qq : Operand} {k : Int} {ns : List (Int × Nat)} (hg : o.guard = none) (hd : o.dst = none) (ho : o.op = .mapUpdate t x y qq) (hM : MapT P t kt (.int .i64) et (.bool false)) (i : Nat) (hS : St g L w) (hi : L[i]? = some (blk b (.map (mE (ns.map bK)) c))) (hx : ev F x = .map (some b)) (hy : ev F y = .int .i64 k) (hq : ev F qq = .bool true) (hu : BUq ns)
    (hk : ∀ ns' q' w', BUq ns' → (∀ z, inB ns' z = true ↔ z = k ∨ inB ns z = true) → St g (L.set i (blk b (.map (mE (List.map bK ns')) q'))) w' → WL P n os l K F w') : WL P n os (o :: l) K F w := by
  rcases b_find hu k with ⟨j, h1, ⟨bn, h2⟩, h3⟩ | ⟨h1, h2, h3⟩
  · have hj : (ns.map bK)[j]? = some (.int .i64 k, .bool true, bn) := by rw [List.getElem?_map, h2]; rfl
    refine WL.muE hg hd ho hM i hS hi hx hy hq rfl h3 hj fun w' hS' => ?_
    have he : (ns.map bK).set j (.int .i64 k, .bool true, bn) = ns.map bK := by
      have hl := (List.getElem?_eq_some_iff.1 hj).1
      have e := (List.getElem?_eq_some_iff.1 hj).2
      rw [← e]; exact List.set_getElem_self _
    rw [he] at hS'
    exact hk ns c w' hu (fun z => ⟨.inr, fun h => h.elim (fun e => by rw [e]; exact h1) id⟩) hS'
  · refine WL.muN hg hd ho hM i hS hi hx hy hq rfl h3 fun w' hS' => ?_
    have he : ns.map bK ++ [(.int .i64 k, .bool true, c)] = (ns ++ [(k, c)]).map bK := by simp [bK]
    rw [he] at hS'
    refine hk (ns ++ [(k, c)]) (c + 1) w' (List.pairwise_append.2 ⟨hu, List.pairwise_singleton _ _, fun a ha b hb => by simp only [List.mem_singleton] at hb; subst hb; exact h2 a ha⟩) (fun z => ?_) hS'
    rw [inB_iff, inB_iff]
    constructor
    · rintro ⟨x, hx, he⟩
      rcases List.mem_append.1 hx with hx | hx
      · exact .inr ⟨x, hx, he⟩
      · simp only [List.mem_singleton] at hx; subst hx; exact .inl he.symm
    · rintro (rfl | ⟨x, hx, he⟩)
      · exact ⟨(z, c), by simp, rfl⟩
      · exact ⟨x, List.mem_append_left _ hx, he⟩
end
/-! ### a table as a function -/
def vw (xs : List VN) (z : Int) : Option (Bool × List Int) := (vfind xs z).map fun x => (x.live, x.ab)
theorem live_vw (xs : List VN) (z : Int) : liveG xs z = ((vw xs z).map (·.1)).getD false := by
  unfold liveG vw; cases vfind xs z <;> rfl
theorem pre_vw (xs : List VN) (z : Int) : preG xs z = (vw xs z).isSome := by
  unfold preG vw; cases vfind xs z <;> rfl
theorem ab_vw (xs : List VN) (z : Int) : abG xs z = ((vw xs z).map (·.2)).getD [] := by
  unfold abG vw; cases vfind xs z <;> rfl
theorem erase_mem {xs : List VN} {j : Nat} {u : VN} (hu : VUq xs) (hj : xs[j]? = some u) (x : VN) : x ∈ xs.eraseIdx j ↔ x ∈ xs ∧ x.n ≠ u.n := by
  induction xs generalizing j with
  | nil => simp at hj
  | cons y t ih =>
    have hp := List.pairwise_cons.1 hu
    cases j with
    | zero =>
      simp at hj; subst hj
      simp only [List.eraseIdx_cons_zero, List.mem_cons]
      constructor
      · exact fun h => ⟨.inr h, fun e => hp.1 x h e.symm⟩
      · rintro ⟨rfl | h, h2⟩
        · exact absurd rfl h2
        · exact h
    | succ j =>
      simp at hj
      have h1 := hp.1 u (List.mem_of_getElem? hj)
      simp only [List.eraseIdx_cons_succ, List.mem_cons, ih hp.2 hj]
      constructor
      · rintro (rfl | ⟨h, h2⟩)
        · exact ⟨.inl rfl, h1⟩
        · exact ⟨.inr h, h2⟩
      · rintro ⟨rfl | h, h2⟩
        · exact .inl rfl
        · exact .inr ⟨h, h2⟩
theorem VUq.find {xs : List VN} (hu : VUq xs) {z : Int} {x : VN} : vfind xs z = some x ↔ x ∈ xs ∧ x.n = z := ⟨vfind_some, fun ⟨h, e⟩ => by subst e; exact vfind_mem h hu⟩
theorem vw_erase {xs : List VN} {j : Nat} {u : VN} (hu : VUq xs) (hj : xs[j]? = some u) (z : Int) : vw (xs.eraseIdx j) z = if z = u.n then none else vw xs z := by
  have hu2 : VUq (xs.eraseIdx j) := hu.sublist (List.eraseIdx_sublist xs j)
  unfold vw
  by_cases hz : z = u.n
  · rw [if_pos hz]
    rw [vfind_out (fun x hx e => ((erase_mem hu hj x).1 hx).2 (by rw [e, hz]))]; rfl
  · rw [if_neg hz]
    congr 1
    cases hf : vfind xs z with
    | none => exact vfind_out fun x hx e => vfind_none.1 hf x ((erase_mem hu hj x).1 hx).1 e
    | some x =>
      obtain ⟨h1, h2⟩ := vfind_some hf
      exact hu2.find.2 ⟨(erase_mem hu hj x).2 ⟨h1, fun e => hz (h2.symm.trans e)⟩, h2⟩
theorem VUq.set {xs : List VN} {j : Nat} {u u' : VN} (hu : VUq xs) (hj : xs[j]? = some u) (hn : u'.n = u.n) : VUq (xs.set j u') := by
  unfold VUq at hu ⊢
  rw [← List.pairwise_map (f := VN.n) (R := fun a b => a ≠ b)] at hu ⊢
  have hl := (List.getElem?_eq_some_iff.1 hj).1
  have he := (List.getElem?_eq_some_iff.1 hj).2
  have : (xs.set j u').map VN.n = xs.map VN.n := by
    rw [List.map_set, hn]
    have h5 : (xs.map VN.n)[j]'(by simpa using hl) = u.n := by simp [he]
    rw [← h5]; exact List.set_getElem_self _
  rw [this]; exact hu
theorem set_mem {xs : List VN} {j : Nat} {u u' : VN} (hu : VUq xs) (hj : xs[j]? = some u) (x : VN) : x ∈ xs.set j u' ↔ x = u' ∨ (x ∈ xs ∧ x.n ≠ u.n) := by
  induction xs generalizing j with
  | nil => simp at hj
  | cons y t ih =>
    have hp := List.pairwise_cons.1 hu
    cases j with
    | zero =>
      simp at hj; subst hj
      simp only [List.set_cons_zero, List.mem_cons]
      constructor
      · rintro (h | h)
        · exact .inl h
        · exact .inr ⟨.inr h, fun e => hp.1 x h e.symm⟩
      · rintro (h | ⟨rfl | h, h2⟩)
        · exact .inl h
        · exact absurd rfl h2
        · exact .inr h
    | succ j =>
      simp at hj
      have h1 := hp.1 u (List.mem_of_getElem? hj)
      simp only [List.set_cons_succ, List.mem_cons, ih hp.2 hj]
      constructor
      · rintro (rfl | h | ⟨h, h2⟩)
        · exact .inr ⟨.inl rfl, h1⟩
        · exact .inl h
        · exact .inr ⟨.inr h, h2⟩
      · rintro (h | ⟨rfl | h, h2⟩)
        · exact .inr (.inl h)
        · exact .inl rfl
        · exact .inr (.inr ⟨h, h2⟩)
theorem vw_set {xs : List VN} {j : Nat} {u u' : VN} (hu : VUq xs) (hj : xs[j]? = some u) (hn : u'.n = u.n) (z : Int) : vw (xs.set j u') z = if z = u.n then some (u'.live, u'.ab) else vw xs z := by
  have hu2 := hu.set hj hn
  unfold vw
  by_cases hz : z = u.n
  · rw [if_pos hz, hu2.find.2 ⟨(set_mem hu hj u').2 (.inl rfl), hn.trans hz.symm⟩]; rfl
  · rw [if_neg hz]
    congr 1
    cases hf : vfind xs z with
    | none =>
      refine vfind_out fun x hx e => ?_
      rcases (set_mem hu hj x).1 hx with rfl | ⟨h, _⟩
      · exact hz (e.symm.trans hn)
      · exact vfind_none.1 hf x h e
    | some x =>
      obtain ⟨h1, h2⟩ := vfind_some hf
      exact hu2.find.2 ⟨(set_mem hu hj x).2 (.inr ⟨h1, fun e => hz (h2.symm.trans e)⟩), h2⟩
theorem VOk.rem {xs : List VN} {q : Nat} (h : VOk xs q) (j : Nat) : VOk (xs.eraseIdx j) q := by
  have hs := List.eraseIdx_sublist xs j
  exact ⟨h.uniq.sublist hs, fun x hx => h.born x (hs.subset hx), h.bnd.sublist (hs.map _), fun x hx => h.rng x (hs.subset hx), Nat.le_trans hs.length_le h.num⟩
theorem VOk.set {xs : List VN} {q j : Nat} {u u' : VN} (h : VOk xs q) (hj : xs[j]? = some u) (hn : u'.n = u.n) (hb : u'.born = u.born) : VOk (xs.set j u') q := by
  have hm := List.mem_of_getElem? hj
  have hl := (List.getElem?_eq_some_iff.1 hj).1
  have he := (List.getElem?_eq_some_iff.1 hj).2
  have hmem : ∀ x ∈ xs.set j u', x = u' ∨ x ∈ xs := fun x hx => (List.mem_or_eq_of_mem_set hx).symm
  refine ⟨h.uniq.set hj hn, fun x hx => ?_, ?_, fun x hx => ?_, by rw [List.length_set]; exact h.num⟩
  · rcases hmem x hx with rfl | hx
    · rw [hb]; exact h.born u hm
    · exact h.born x hx
  · have : (xs.set j u').map VN.born = xs.map VN.born := by
      rw [List.map_set, hb]
      have h5 : (xs.map VN.born)[j]'(by simpa using hl) = u.born := by simp [he]
      rw [← h5]; exact List.set_getElem_self _
    rw [this]; exact h.bnd
  · rcases hmem x hx with rfl | hx
    · rw [hn]; exact h.rng u hm
    · exact h.rng x hx
end Go.V
