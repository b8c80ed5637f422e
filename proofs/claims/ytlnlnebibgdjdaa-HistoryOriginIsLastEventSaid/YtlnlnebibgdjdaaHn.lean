/-
  Histories: the events of a chain of lists, the origins; a chain of trees.
  Conditions: the lists are ascending.
-/
import Derived.Test.YtlnlnebibgdjdaaHm
import Derived.Test.YtlnlnebibgdjdaaTra
namespace Go.V
open Go Go.RowKit

def lsA (L : List Kvs) (i : Nat) : Kvs := L.getD i []
def lsB (L : List Kvs) (i : Nat) : Kvs := if i = 0 then [] else lsA L (i - 1)
def dA (lo hi : Int) (L : List Kvs) (i : Nat) : List Chg := inR lo hi (dif (lsB L i) (lsA L i))
def evA (i : Nat) (D : List Chg) : List Ev := D.map fun c => ((i : Int), c)
def hev (lo hi : Int) (L : List Kvs) (k : Nat) : List Ev := (List.range k).flatMap fun i => evA i (dA lo hi L i)
def LOk (L : List Kvs) : Prop := ∀ l ∈ L, Srt l ∧ l.length ≤ 100 ∧ kvR l
section
variable {L : List Kvs} {lo hi : Int}
theorem hev_0 : hev lo hi L 0 = [] := rfl
theorem hev_succ (k : Nat) : hev lo hi L (k + 1) = hev lo hi L k ++ evA k (dA lo hi L k) := by
  unfold hev; rw [List.range_succ, List.flatMap_append]; simp
theorem evA_len (i : Nat) (D : List Chg) : (evA i D).length = D.length := List.length_map ..
theorem evA_snoc {i m : Nat} {D : List Chg} {c : Chg} (h : D[m]? = some c) : evA i (D.take (m + 1)) = evA i (D.take m) ++ [((i : Int), c)] := by
  unfold evA; rw [List.take_add_one, h]; simp
theorem LOk.a (h : LOk L) (i : Nat) : Srt (lsA L i) ∧ (lsA L i).length ≤ 100 ∧ kvR (lsA L i) := by
  unfold lsA
  rw [List.getD_eq_getElem?_getD]
  cases hi : L[i]? with
  | none => exact ⟨List.Pairwise.nil, Nat.zero_le _, fun x hx => (by cases hx)⟩
  | some l => exact h l (List.mem_of_getElem? hi)
theorem LOk.b (h : LOk L) (i : Nat) : Srt (lsB L i) ∧ (lsB L i).length ≤ 100 ∧ kvR (lsB L i) := by
  unfold lsB
  split
  · exact ⟨List.Pairwise.nil, Nat.zero_le _, fun x hx => (by cases hx)⟩
  · exact h.a _
theorem dA_len (h : LOk L) (i : Nat) : (dA lo hi L i).length ≤ 200 := by
  have h1 := dif_len (lsB L i) (lsA L i)
  have h2 := (h.a i).2.1
  have h3 := (h.b i).2.1
  exact Nat.le_trans (List.length_filter_le _ _) (by omega)
theorem hev_len (h : LOk L) : ∀ k, (hev lo hi L k).length ≤ 200 * k
  | 0 => Nat.le_refl _
  | k + 1 => by
    have h1 := hev_len h k
    have h2 := dA_len (lo := lo) (hi := hi) h k
    rw [hev_succ, List.length_append, evA_len]; omega
theorem hev_le : ∀ {k n : Nat}, k ≤ n → (hev lo hi L k).length ≤ (hev lo hi L n).length
  | k, 0, h => by rw [Nat.le_zero.1 h]; exact Nat.le_refl _
  | k, n + 1, h => by
    rcases Nat.lt_or_ge k (n + 1) with h1 | h1
    · have := hev_le (show k ≤ n by omega)
      rw [hev_succ n, List.length_append]; omega
    · rw [show k = n + 1 by omega]; exact Nat.le_refl _
/-- where an event stands -/
theorem hev_pos : ∀ {n p : Nat} {e : Ev}, (hev lo hi L n)[p]? = some e → ∃ i m c, i < n ∧ (dA lo hi L i)[m]? = some c ∧ e = ((i : Int), c) ∧ p = (hev lo hi L i).length + m ∧ (hev lo hi L n).take p = hev lo hi L i ++ evA i ((dA lo hi L i).take m)
  | 0, p, e, h => by rw [hev_0] at h; simp at h
  | n + 1, p, e, h => by
    rw [hev_succ] at h ⊢
    rcases Nat.lt_or_ge p (hev lo hi L n).length with hp | hp
    · rw [List.getElem?_append_left hp] at h
      obtain ⟨i, m, c, h1, h2, h3, h4, h5⟩ := hev_pos h
      refine ⟨i, m, c, by omega, h2, h3, h4, ?_⟩
      rw [List.take_append_of_le_length (by omega)]; exact h5
    · rw [List.getElem?_append_right hp] at h
      unfold evA at h
      rw [List.getElem?_map] at h
      cases hc : (dA lo hi L n)[p - (hev lo hi L n).length]? with
      | none => rw [hc] at h; cases h
      | some c =>
        rw [hc] at h
        refine ⟨n, p - (hev lo hi L n).length, c, by omega, hc, (Option.some.inj h).symm, by omega, ?_⟩
        rw [List.take_append, List.take_of_length_le hp]
        unfold evA
        rw [List.map_take]
theorem hev_at {n i m : Nat} {c : Chg} (hi2 : i < n) (h : (dA lo hi L i)[m]? = some c) : (hev lo hi L n)[(hev lo hi L i).length + m]? = some ((i : Int), c) := by
  induction n with
  | zero => omega
  | succ n ih =>
    rw [hev_succ]
    rcases Nat.lt_or_ge i n with h1 | h1
    · have h2 := ih h1
      rw [List.getElem?_append_left (List.getElem?_eq_some_iff.1 h2).1]; exact h2
    · have : i = n := by omega
      subst this
      rw [List.getElem?_append_right (by omega), show (hev lo hi L i).length + m - (hev lo hi L i).length = m by omega]
      unfold evA; rw [List.getElem?_map, h]; rfl
theorem hev_end {n i : Nat} {e : Ev} (h : (hev lo hi L n)[(hev lo hi L (i + 1)).length]? = some e) : e.1 ≠ (i : Int) := fun he => by
  obtain ⟨j, m, c, h1, h2, rfl, h4, _⟩ := hev_pos h
  have hj : j = i := by have : (j : Int) = i := he; omega
  subst hj
  have h5 := (List.getElem?_eq_some_iff.1 h2).1
  rw [hev_succ, List.length_append, evA_len] at h4
  omega
/-! ### performing all events -/
def minI : Int := -9223372036854775808
def maxI : Int := 9223372036854775807
def rpE (l : Kvs) (E : List Ev) : Kvs := reps l (E.map (·.2))
theorem reps_app (l : Kvs) (A B : List Chg) : reps l (A ++ B) = reps (reps l A) B := by unfold reps; rw [List.foldl_append]
theorem rpE_app (l : Kvs) (A B : List Ev) : rpE l (A ++ B) = rpE (rpE l A) B := by unfold rpE; rw [List.map_append, reps_app]
theorem rpE_evA (l : Kvs) (i : Nat) (D : List Chg) : rpE l (evA i D) = reps l D := by
  unfold rpE evA; rw [List.map_map]; congr 1; exact List.map_id' D
theorem dA_full (h : LOk L) (i : Nat) : dA minI maxI L i = dif (lsB L i) (lsA L i) := inR_full (h.b i).2.2 (h.a i).2.2
theorem rpE_hev (h : LOk L) : ∀ k, rpE [] (hev minI maxI L k) = lsB L k
  | 0 => rfl
  | k + 1 => by
    rw [hev_succ, rpE_app, rpE_hev h k, rpE_evA, dA_full h, reps_dif (h.b k).1 (h.a k).1]
    unfold lsB; rw [if_neg (by omega)]; rfl
/-- the list when the events before an event have been performed; what the event finds there -/
theorem rpE_pos (h : LOk L) {n p : Nat} {e : Ev} (he : (hev minI maxI L n)[p]? = some e) : (e.2.1 = 2 → (lget e.2.2.1 (rpE [] ((hev minI maxI L n).take p))).isSome = true) := by
  obtain ⟨i, m, c, h1, h2, rfl, h4, h5⟩ := hev_pos he
  intro hk
  rw [h5, rpE_app, rpE_hev h, rpE_evA]
  rw [dA_full h] at h2 ⊢
  have ha := dif_asc (lsB L i) (lsA L i) (h.b i).1 (h.a i).1
  have hm := List.mem_of_getElem? h2
  rw [reps_far (h.b i).1 fun d hd => ?_, (dif_ok _ _ (h.b i).1 (h.a i).1 c hm).old, if_neg (by have : c.1 = 2 := hk; omega)]
  · rfl
  · obtain ⟨j, hj⟩ := List.mem_iff_getElem?.1 hd
    rw [List.getElem?_take] at hj
    split at hj
    · rename_i hjm
      have e1 := List.getElem?_eq_some_iff.1 hj
      have e2 := List.getElem?_eq_some_iff.1 h2
      have := List.pairwise_iff_getElem.1 ha j m e1.1 e2.1 hjm
      rw [e1.2, e2.2] at this
      show d.2.1 ≠ c.2.1
      omega
    · cases hj
/-! ### origins -/
def oStep (M : List (Int × Int × Int)) (e : Ev) : List (Int × Int × Int) := if e.2.1 = 2 then pdel e.2.2.1 M else pput e.2.2.1 (e.2.2.2.2, e.1) M
def oAll (E : List Ev) : List (Int × Int × Int) := E.foldl oStep []
theorem oAll_snoc (E : List Ev) (e : Ev) : oAll (E ++ [e]) = oStep (oAll E) e := by unfold oAll; rw [List.foldl_append]; rfl
theorem oStep_srt {M : List (Int × Int × Int)} {e : Ev} (h : pSrt M) : pSrt (oStep M e) := by unfold oStep; split; exact pdel_srt h; exact pput_srt h
theorem oAll_get (E : List Ev) : pSrt (oAll E) ∧ ∀ z, pget z (oAll E) = ((E.filter fun e => decide (e.2.2.1 = z)).getLast?).bind fun e => if e.2.1 = 2 then none else some (e.2.2.2.2, e.1) := by
  induction hn : E.length generalizing E with
  | zero =>
    have : E = [] := List.length_eq_zero_iff.1 hn
    subst this
    exact ⟨List.Pairwise.nil, fun z => rfl⟩
  | succ n ih =>
    obtain ⟨F, e, rfl⟩ : ∃ F e, E = F ++ [e] := ⟨E.dropLast, E.getLast (fun h => by rw [h] at hn; cases hn), (List.dropLast_concat_getLast _).symm⟩
    obtain ⟨h1, h2⟩ := ih F (by simp at hn; omega)
    rw [oAll_snoc]
    refine ⟨oStep_srt h1, fun z => ?_⟩
    rw [List.filter_append]
    by_cases hz : e.2.2.1 = z
    · have hf : ([e] : List Ev).filter (fun e => decide (e.2.2.1 = z)) = [e] := by simp [hz]
      rw [hf, List.getLast?_concat]
      unfold oStep
      by_cases hk : e.2.1 = 2
      · rw [if_pos hk, pget_del h1, if_pos hz.symm]; simp [hk]
      · rw [if_neg hk, pget_put h1, if_pos hz.symm]; simp [hk]
    · have hf : ([e] : List Ev).filter (fun e => decide (e.2.2.1 = z)) = [] := by simp [hz]
      rw [hf, List.append_nil, ← h2 z]
      unfold oStep
      split
      · rw [pget_del h1, if_neg fun e => hz e.symm]
      · rw [pget_put h1, if_neg fun e => hz e.symm]
/-- the origins' keys and values are the list -/
theorem oAll_list (E : List Ev) : (oAll E).map (fun x => (x.1, x.2.1)) = rpE [] E := by
  induction hn : E.length generalizing E with
  | zero =>
    have : E = [] := List.length_eq_zero_iff.1 hn
    subst this; rfl
  | succ n ih =>
    obtain ⟨F, e, rfl⟩ : ∃ F e, E = F ++ [e] := ⟨E.dropLast, E.getLast (fun h => by rw [h] at hn; cases hn), (List.dropLast_concat_getLast _).symm⟩
    have h1 := ih F (by simp at hn; omega)
    rw [oAll_snoc, rpE_app, ← h1]
    show (oStep (oAll F) e).map _ = rep _ e.2
    unfold oStep rep
    have hf : ∀ p : Int → Bool, ((oAll F).map fun x : Int × Int × Int => (x.1, x.2.1)).filter (fun x => p x.1) = ((oAll F).filter fun x => p x.1).map fun x => (x.1, x.2.1) := fun p => by rw [List.filter_map]; rfl
    by_cases hk : e.2.1 = 2
    · rw [if_pos hk, if_pos hk]
      exact (hf fun z => decide (z ≠ e.2.2.1)).symm
    · rw [if_neg hk, if_neg hk]
      unfold pput lins
      rw [hf fun z => decide (z < e.2.2.1), hf fun z => decide (e.2.2.1 < z), List.map_append]; rfl
theorem oAll_len (h : LOk L) (n p : Nat) : (oAll ((hev minI maxI L n).take p)).length ≤ 200 * n := by
  have h0 : ∀ E : List Ev, (oAll E).length ≤ E.length := fun E => by
    induction hn : E.length generalizing E with
    | zero =>
      have : E = [] := List.length_eq_zero_iff.1 hn
      subst this; exact Nat.le_refl _
    | succ n ih =>
      obtain ⟨F, e, rfl⟩ : ∃ F e, E = F ++ [e] := ⟨E.dropLast, E.getLast (fun h => by rw [h] at hn; cases hn), (List.dropLast_concat_getLast _).symm⟩
      have h1 := ih F (by simp at hn; omega)
      rw [oAll_snoc]
      have hs := (oAll_get F).1
      unfold oStep
      split
      · exact Nat.le_trans (List.length_filter_le _ _) (by omega)
      · unfold pput
        rw [List.length_append, List.length_cons]
        have h2 : ∀ M : List (Int × Int × Int), (M.filter fun x => decide (x.1 < e.2.2.1)).length + (M.filter fun x => decide (e.2.2.1 < x.1)).length ≤ M.length := fun M => by
          induction M with
          | nil => exact Nat.le_refl _
          | cons x t ih =>
            rw [List.length_cons]
            by_cases h1 : x.1 < e.2.2.1
            · rw [List.filter_cons_of_pos (by simpa using h1), List.filter_cons_of_neg (by simp; omega), List.length_cons]; omega
            · rw [List.filter_cons_of_neg (by simpa using h1)]
              by_cases h2 : e.2.2.1 < x.1
              · rw [List.filter_cons_of_pos (by simpa using h2), List.length_cons]; omega
              · rw [List.filter_cons_of_neg (by simpa using h2)]; omega
        have := h2 (oAll F)
        omega
  refine Nat.le_trans (h0 _) (Nat.le_trans (List.length_take_le' _ _) (hev_len h n))
/-- the events of some keys among all -/
theorem hev_filter (h : LOk L) (n : Nat) : hev lo hi L n = (hev minI maxI L n).filter fun e => decide (lo ≤ e.2.2.1 ∧ e.2.2.1 ≤ hi) := by
  induction n with
  | zero => rfl
  | succ n ih =>
    rw [hev_succ, hev_succ, List.filter_append, ih]
    congr 1
    unfold evA
    rw [dA_full h, List.filter_map]; rfl
end
/-! ### a chain of trees -/
structure RTs (A : AM) (L : List Kvs) (rs : List Int) : Prop where
  len : L.length = rs.length
  get : ∀ (i : Nat) (r : Int), rs[i]? = some r → ∃ t : Tr, Is A t r ∧ t.ok ∧ t.ls = lsA L i
def rsB (rs : List Int) (i : Nat) : Int := if i = 0 then 0 else rs.getD (i - 1) 0
theorem RTs.bef {A : AM} {L : List Kvs} {rs : List Int} (h : RTs A L rs) {i : Nat} (hi : i ≤ rs.length) : ∃ t : Tr, Is A t (rsB rs i) ∧ t.ok ∧ t.ls = lsB L i := by
  unfold rsB lsB
  by_cases h0 : i = 0
  · rw [if_pos h0, if_pos h0]; exact ⟨.nil, rfl, trivial, rfl⟩
  · rw [if_neg h0, if_neg h0]
    have h1 : rs[i - 1]? = some (rs[i - 1]'(by omega)) := List.getElem?_eq_getElem (by omega)
    rw [List.getD_eq_getElem?_getD, h1]
    exact h.get (i - 1) _ h1
end Go.V
