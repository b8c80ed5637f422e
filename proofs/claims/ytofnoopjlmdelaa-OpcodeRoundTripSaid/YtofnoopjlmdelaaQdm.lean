/-
  Plain model of the reference's reader of encodings.
  Conditions: none.
-/
import Derived.Test.YtofnoopjlmdelaaOpx
namespace Go.V
open Go

def qU (bs : List Int) (most : Int) (p : Nat) (e : Int) : Int × Nat × Int :=
  if e ≠ 0 then (0, p, e) else if (uv (bs.drop p)).2.2 ≠ 0 then (0, p, (uv (bs.drop p)).2.2) else
  if most < (uv (bs.drop p)).1 then (0, p, 13) else ((uv (bs.drop p)).1, p + (uv (bs.drop p)).2.1, 0)
def qZ (bs : List Int) (p : Nat) (e : Int) : Int × Nat × Int := (uz (qU bs 18446744073709551615 p e).1, (qU bs 18446744073709551615 p e).2)
def qC (bs : List Int) (most : Int) (p : Nat) (e : Int) : Int × Nat × Int :=
  if e ≠ 0 then (0, p, e) else match bs[p]? with | none => (0, p, 12) | some c => if most < c then (0, p, 13) else (c, p + 1, 0)
def qSize (bs : List Int) (most : Int) (p : Nat) (e : Int) : Int × Nat × Int :=
  if (qU bs most p e).2.2 ≠ 0 then (0, (qU bs most p e).2) else if (bs.length : Int) - (qU bs most p e).2.1 < (qU bs most p e).1 then (0, (qU bs most p e).2.1, 12) else qU bs most p e
def qText (bs : List Int) (most : Int) (p : Nat) (e : Int) : List Int × Nat × Int :=
  if (qSize bs most p e).2.2 ≠ 0 then ([], (qSize bs most p e).2) else
  ((bs.drop (qSize bs most p e).2.1).take (qSize bs most p e).1.toNat, (qSize bs most p e).2.1 + (qSize bs most p e).1.toNat, 0)
def qEnts (bs : List Int) : Nat → Nat → Int → List (Int × Int) × Nat × Int
  | 0, p, e => ([], p, e)
  | n + 1, p, e => if e ≠ 0 then ([], p, e) else
    let k := qZ bs p e
    let v := qZ bs k.2.1 k.2.2
    let r := qEnts bs n v.2.1 v.2.2
    ((k.1, v.1) :: r.1, r.2)
def qChs (bs : List Int) : Nat → Nat → Int → List (Int × Int × Int × Int) × Nat × Int
  | 0, p, e => ([], p, e)
  | n + 1, p, e => if e ≠ 0 then ([], p, e) else
    let c := qC bs 255 p e
    let k := qZ bs c.2.1 c.2.2
    let u := qZ bs k.2.1 k.2.2
    let v := qZ bs u.2.1 u.2.2
    let r := qChs bs n v.2.1 v.2.2
    ((c.1, k.1, u.1, v.1) :: r.1, r.2)
def qInts (bs : List Int) : Nat → Nat → Int → List Int × Nat × Int
  | 0, p, e => ([], p, e)
  | n + 1, p, e => if e ≠ 0 then ([], p, e) else
    let k := qZ bs p e
    let r := qInts bs n k.2.1 k.2.2
    (k.1 :: r.1, r.2)
section
variable {bs : List Int} {p : Nat} {e most : Int}
theorem qU_le (h : p ≤ bs.length) : (qU bs most p e).2.1 ≤ bs.length := by
  unfold qU
  repeat' split
  · exact h
  · exact h
  · exact h
  · rename_i h1 h2 h3
    have := uvGo_len (bs.drop p) 0 0 (Classical.not_not.1 h2)
    simp only [List.length_drop] at this
    unfold uv
    simp only; omega
theorem qU_b (hb : B8 bs) (hm : 0 ≤ most) : 0 ≤ (qU bs most p e).1 ∧ (qU bs most p e).1 ≤ most := by
  have h0 := uvGo_bd (bs.drop p) 0 0 (fun x hx => hb x (List.mem_of_mem_drop hx)) UvB.start
  unfold qU
  repeat' split
  · exact ⟨Int.le_refl _, hm⟩
  · exact ⟨Int.le_refl _, hm⟩
  · exact ⟨Int.le_refl _, hm⟩
  · rename_i h3
    exact ⟨h0.1, by simp only; omega⟩
theorem qZ_le (h : p ≤ bs.length) : (qZ bs p e).2.1 ≤ bs.length := qU_le h
theorem qC_le (h : p ≤ bs.length) : (qC bs most p e).2.1 ≤ bs.length := by
  unfold qC
  split
  · exact h
  · split
    · exact h
    · rename_i hc
      have := (List.getElem?_eq_some_iff.1 hc).1
      split
      · exact h
      · simp only; omega
theorem qC_b (hb : B8 bs) (hm : 0 ≤ most) : 0 ≤ (qC bs most p e).1 ∧ (qC bs most p e).1 ≤ most := by
  unfold qC
  split
  · exact ⟨Int.le_refl _, hm⟩
  · split
    · exact ⟨Int.le_refl _, hm⟩
    · rename_i hc
      have := hb _ (List.mem_of_getElem? hc)
      split
      · exact ⟨Int.le_refl _, hm⟩
      · simp only; omega
theorem qSize_le (h : p ≤ bs.length) : (qSize bs most p e).2.1 ≤ bs.length := by
  have := qU_le (most := most) (e := e) h
  unfold qSize; repeat' split
  all_goals exact this
theorem qSize_b (hb : B8 bs) (hm : 0 ≤ most) (h : p ≤ bs.length) : 0 ≤ (qSize bs most p e).1 ∧ (qSize bs most p e).1 ≤ most ∧ (qSize bs most p e).1 + (qSize bs most p e).2.1 ≤ bs.length := by
  have h1 := qU_le (most := most) (e := e) h
  have h2 := qU_b (p := p) (e := e) hb hm
  unfold qSize; repeat' split
  all_goals first | omega | (simp only; omega)
theorem qText_le (hb : B8 bs) (hm : 0 ≤ most) (h : p ≤ bs.length) : (qText bs most p e).2.1 ≤ bs.length := by
  have h1 := qSize_le (most := most) (e := e) h
  have h2 := qSize_b (e := e) hb hm h
  unfold qText; split
  · exact h1
  · simp only; omega
theorem qText_B8 (hb : B8 bs) : B8 (qText bs most p e).1 := by
  unfold qText; split
  · intro _ h; cases h
  · intro x hx; exact hb x (List.mem_of_mem_drop (List.mem_of_mem_take hx))
theorem qEnts_p : ∀ (n p : Nat) (e : Int), p ≤ bs.length → (qEnts bs n p e).2.1 ≤ bs.length ∧ (qEnts bs n p e).1.length ≤ n
  | 0, p, e, h => ⟨h, Nat.le_refl _⟩
  | n + 1, p, e, h => by
    unfold qEnts
    split
    · exact ⟨h, Nat.zero_le _⟩
    · have := qEnts_p n _ (qZ bs (qZ bs p e).2.1 (qZ bs p e).2.2).2.2 (qZ_le (e := (qZ bs p e).2.2) (qZ_le (e := e) h))
      exact ⟨this.1, by simp only [List.length_cons]; omega⟩
theorem qChs_p : ∀ (n p : Nat) (e : Int), p ≤ bs.length → (qChs bs n p e).2.1 ≤ bs.length ∧ (qChs bs n p e).1.length ≤ n
  | 0, p, e, h => ⟨h, Nat.le_refl _⟩
  | n + 1, p, e, h => by
    unfold qChs
    split
    · exact ⟨h, Nat.zero_le _⟩
    · have h1 := qC_le (most := 255) (e := e) h
      have h2 := qZ_le (e := (qC bs 255 p e).2.2) h1
      have h3 := qZ_le (e := (qZ bs (qC bs 255 p e).2.1 (qC bs 255 p e).2.2).2.2) h2
      have h4 := qZ_le (e := (qZ bs (qZ bs (qC bs 255 p e).2.1 (qC bs 255 p e).2.2).2.1 (qZ bs (qC bs 255 p e).2.1 (qC bs 255 p e).2.2).2.2).2.2) h3
      have := qChs_p n _ (qZ bs (qZ bs (qZ bs (qC bs 255 p e).2.1 (qC bs 255 p e).2.2).2.1 (qZ bs (qC bs 255 p e).2.1 (qC bs 255 p e).2.2).2.2).2.1 (qZ bs (qZ bs (qC bs 255 p e).2.1 (qC bs 255 p e).2.2).2.1 (qZ bs (qC bs 255 p e).2.1 (qC bs 255 p e).2.2).2.2).2.2).2.2 h4
      exact ⟨this.1, by simp only [List.length_cons]; omega⟩
theorem qEnts_le {n : Nat} (h : p ≤ bs.length) : (qEnts bs n p e).2.1 ≤ bs.length := (qEnts_p n p e h).1
theorem qChs_le {n : Nat} (h : p ≤ bs.length) : (qChs bs n p e).2.1 ≤ bs.length := (qChs_p n p e h).1
theorem qEnts_0 {n : Nat} (h : e ≠ 0) : qEnts bs n p e = ([], p, e) := by cases n <;> simp [qEnts, h]
theorem qChs_0 {n : Nat} (h : e ≠ 0) : qChs bs n p e = ([], p, e) := by cases n <;> simp [qChs, h]
theorem qInts_0 {n : Nat} (h : e ≠ 0) : qInts bs n p e = ([], p, e) := by cases n <;> simp [qInts, h]
end
end Go.V
