/-
  Plain model of the reader of encodings: a state is the position p and the first error e.
  Conditions: none.
-/
import Derived.Test.YtofnoopjlmdelaaOpm
namespace Go.V
open Go

def fl (e e2 : Int) : Int := if e = 0 then e2 else e
def rU (bs : List Int) (p : Nat) (e : Int) : Int × Nat × Int :=
  if e ≠ 0 then (0, p, e) else if (uv (bs.drop p)).2.2 = 0 then ((uv (bs.drop p)).1, p + (uv (bs.drop p)).2.1, 0) else (0, p, (uv (bs.drop p)).2.2)
def rZ (bs : List Int) (p : Nat) (e : Int) : Int × Nat × Int := (uz (rU bs p e).1, (rU bs p e).2)
def rB (bs : List Int) (p : Nat) (e : Int) : Int × Nat × Int := if e ≠ 0 then (0, p, e) else match bs[p]? with | none => (0, p, 12) | some c => (c, p + 1, 0)
def rBool (bs : List Int) (p : Nat) (e : Int) : Bool × Nat × Int := (decide ((rB bs p e).1 = 1), (rB bs p e).2.1, if 1 < (rB bs p e).1 then fl (rB bs p e).2.2 13 else (rB bs p e).2.2)
def rLim (bs : List Int) (lim : Int) (p : Nat) (e : Int) : Int × Nat × Int := if lim < (rU bs p e).1 then (0, (rU bs p e).2.1, fl (rU bs p e).2.2 13) else rU bs p e
def rLeft (bs : List Int) (r : Int × Nat × Int) : Int × Nat × Int := if (bs.length : Int) - r.2.1 < r.1 then (0, r.2.1, fl r.2.2 12) else r
def rEl (bs : List Int) (lim : Int) (p : Nat) (e : Int) : Int × Nat × Int := rLeft bs (rLim bs lim p e)
def rCnt (bs : List Int) (p : Nat) (e : Int) : Int × Nat × Int := rLeft bs (rU bs p e)
def rBytes (bs : List Int) (n : Nat) (p : Nat) (e : Int) : List Int × Nat × Int :=
  if bs.length - p < n then ([], p, fl e 12) else if e ≠ 0 ∨ n = 0 then ([], p, e) else ((bs.drop p).take n, p + n, e)
def rEnts (bs : List Int) : Nat → Nat → Int → List (Int × Int) × Nat × Int
  | 0, p, e => ([], p, e)
  | n + 1, p, e => if e ≠ 0 then ([], p, e) else
    let k := rZ bs p e
    let v := rZ bs k.2.1 k.2.2
    let r := rEnts bs n v.2.1 v.2.2
    ((k.1, v.1) :: r.1, r.2)
def rChs (bs : List Int) : Nat → Nat → Int → List (Int × Int × Int × Int) × Nat × Int
  | 0, p, e => ([], p, e)
  | n + 1, p, e => if e ≠ 0 then ([], p, e) else
    let c := rB bs p e
    let k := rZ bs c.2.1 c.2.2
    let u := rZ bs k.2.1 k.2.2
    let v := rZ bs u.2.1 u.2.2
    let r := rChs bs n v.2.1 v.2.2
    ((c.1, k.1, u.1, v.1) :: r.1, r.2)
def rInts (bs : List Int) : Nat → Nat → Int → List Int × Nat × Int
  | 0, p, e => ([], p, e)
  | n + 1, p, e => if e ≠ 0 then ([], p, e) else
    let k := rZ bs p e
    let r := rInts bs n k.2.1 k.2.2
    (k.1 :: r.1, r.2)

section
variable {bs : List Int} {p : Nat} {e : Int}
theorem rU_p (h : p ≤ bs.length) : p ≤ (rU bs p e).2.1 ∧ (rU bs p e).2.1 ≤ bs.length := by
  unfold rU
  split
  · exact ⟨Nat.le_refl _, h⟩
  · split
    · rename_i h0
      have := uvGo_len (bs.drop p) 0 0 h0
      simp only [List.length_drop] at this
      unfold uv
      simp only; omega
    · exact ⟨Nat.le_refl _, h⟩
theorem rU_b (hb : B8 bs) : 0 ≤ (rU bs p e).1 ∧ (rU bs p e).1 ≤ 18446744073709551615 := by
  unfold rU
  split
  · simp
  · split
    · exact uvGo_bd _ 0 0 (fun x hx => hb x (List.mem_of_mem_drop hx)) UvB.start
    · simp
theorem rZ_b (hb : B8 bs) : -9223372036854775808 ≤ (rZ bs p e).1 ∧ (rZ bs p e).1 ≤ 9223372036854775807 := uz_b (rU_b hb)
theorem rZ_p (h : p ≤ bs.length) : p ≤ (rZ bs p e).2.1 ∧ (rZ bs p e).2.1 ≤ bs.length := rU_p h
theorem rB_p (h : p ≤ bs.length) : p ≤ (rB bs p e).2.1 ∧ (rB bs p e).2.1 ≤ bs.length := by
  unfold rB
  split
  · exact ⟨Nat.le_refl _, h⟩
  · split
    · exact ⟨Nat.le_refl _, h⟩
    · rename_i hc; have := (List.getElem?_eq_some_iff.1 hc).1; simp only; omega
theorem rB_b (hb : B8 bs) : 0 ≤ (rB bs p e).1 ∧ (rB bs p e).1 ≤ 255 := by
  unfold rB
  split
  · simp
  · split
    · simp
    · rename_i hc; exact hb _ (List.mem_of_getElem? hc)
theorem rLim_p {lim : Int} (h : p ≤ bs.length) : p ≤ (rLim bs lim p e).2.1 ∧ (rLim bs lim p e).2.1 ≤ bs.length := by
  unfold rLim; split <;> exact rU_p h
theorem rLim_b {lim : Int} (hb : B8 bs) (hl : 0 ≤ lim) : 0 ≤ (rLim bs lim p e).1 ∧ (rLim bs lim p e).1 ≤ lim := by
  unfold rLim
  split
  · simp [hl]
  · have := (rU_b (p := p) (e := e) hb).1; omega
theorem rLeft_p {r : Int × Nat × Int} (h : p ≤ r.2.1 ∧ r.2.1 ≤ bs.length) : p ≤ (rLeft bs r).2.1 ∧ (rLeft bs r).2.1 ≤ bs.length := by
  unfold rLeft; split <;> exact h
theorem rLeft_b {r : Int × Nat × Int} (h0 : 0 ≤ r.1) (hp : r.2.1 ≤ bs.length) : 0 ≤ (rLeft bs r).1 ∧ (rLeft bs r).1 + (rLeft bs r).2.1 ≤ bs.length := by
  unfold rLeft
  split
  · simp only; omega
  · omega
theorem rBytes_p {n : Nat} (h : p ≤ bs.length) : p ≤ (rBytes bs n p e).2.1 ∧ (rBytes bs n p e).2.1 ≤ bs.length := by
  unfold rBytes; split
  · exact ⟨Nat.le_refl _, h⟩
  · split
    · exact ⟨Nat.le_refl _, h⟩
    · simp only; omega
theorem rEl_b {lim : Int} (hb : B8 bs) (h : p ≤ bs.length) (hl : 0 ≤ lim) : 0 ≤ (rEl bs lim p e).1 ∧ (rEl bs lim p e).1 + (rEl bs lim p e).2.1 ≤ bs.length := rLeft_b (rLim_b hb hl).1 (rLim_p h).2
theorem rCnt_b (hb : B8 bs) (h : p ≤ bs.length) : 0 ≤ (rCnt bs p e).1 ∧ (rCnt bs p e).1 + (rCnt bs p e).2.1 ≤ bs.length := rLeft_b (rU_b hb).1 (rU_p h).2
theorem rEnts_p : ∀ (n p : Nat) (e : Int), p ≤ bs.length → (rEnts bs n p e).2.1 ≤ bs.length ∧ (rEnts bs n p e).1.length ≤ n
  | 0, p, e, h => ⟨h, Nat.le_refl _⟩
  | n + 1, p, e, h => by
    unfold rEnts
    split
    · exact ⟨h, Nat.zero_le _⟩
    · have := rEnts_p n _ (rZ bs (rZ bs p e).2.1 (rZ bs p e).2.2).2.2 (rZ_p (e := (rZ bs p e).2.2) (rZ_p (e := e) h).2).2
      exact ⟨this.1, by simp only [List.length_cons]; omega⟩
theorem rChs_p : ∀ (n p : Nat) (e : Int), p ≤ bs.length → (rChs bs n p e).2.1 ≤ bs.length ∧ (rChs bs n p e).1.length ≤ n
  | 0, p, e, h => ⟨h, Nat.le_refl _⟩
  | n + 1, p, e, h => by
    unfold rChs
    split
    · exact ⟨h, Nat.zero_le _⟩
    · have h1 := (rB_p (e := e) h).2
      have h2 := (rZ_p (e := (rB bs p e).2.2) h1).2
      have h3 := (rZ_p (e := (rZ bs (rB bs p e).2.1 (rB bs p e).2.2).2.2) h2).2
      have h4 := (rZ_p (e := (rZ bs (rZ bs (rB bs p e).2.1 (rB bs p e).2.2).2.1 (rZ bs (rB bs p e).2.1 (rB bs p e).2.2).2.2).2.2) h3).2
      have := rChs_p n _ (rZ bs (rZ bs (rZ bs (rB bs p e).2.1 (rB bs p e).2.2).2.1 (rZ bs (rB bs p e).2.1 (rB bs p e).2.2).2.2).2.1 (rZ bs (rZ bs (rB bs p e).2.1 (rB bs p e).2.2).2.1 (rZ bs (rB bs p e).2.1 (rB bs p e).2.2).2.2).2.2).2.2 h4
      exact ⟨this.1, by simp only [List.length_cons]; omega⟩
theorem rInts_p : ∀ (n p : Nat) (e : Int), p ≤ bs.length → (rInts bs n p e).2.1 ≤ bs.length ∧ (rInts bs n p e).1.length ≤ n
  | 0, p, e, h => ⟨h, Nat.le_refl _⟩
  | n + 1, p, e, h => by
    unfold rInts
    split
    · exact ⟨h, Nat.zero_le _⟩
    · have := rInts_p n _ (rZ bs p e).2.2 (rZ_p (e := e) h).2
      exact ⟨this.1, by simp only [List.length_cons]; omega⟩
theorem rBytes_len {n : Nat} : (rBytes bs n p e).1.length ≤ bs.length := by
  unfold rBytes; split
  · exact Nat.zero_le _
  · split
    · exact Nat.zero_le _
    · simp only [List.length_take, List.length_drop]; omega
theorem rBytes_B8 {n : Nat} (hb : B8 bs) : B8 (rBytes bs n p e).1 := by
  unfold rBytes; split
  · intro _ h; cases h
  · split
    · intro _ h; cases h
    · intro x hx; exact hb x (List.mem_of_mem_drop (List.mem_of_mem_take hx))
theorem rEnts_le {n : Nat} (h : p ≤ bs.length) : (rEnts bs n p e).2.1 ≤ bs.length := (rEnts_p n p e h).1
theorem rChs_le {n : Nat} (h : p ≤ bs.length) : (rChs bs n p e).2.1 ≤ bs.length := (rChs_p n p e h).1
theorem rInts_le {n : Nat} (h : p ≤ bs.length) : (rInts bs n p e).2.1 ≤ bs.length := (rInts_p n p e h).1
theorem rEnts_0 {n : Nat} (h : e ≠ 0) : rEnts bs n p e = ([], p, e) := by cases n <;> simp [rEnts, h]
theorem rChs_0 {n : Nat} (h : e ≠ 0) : rChs bs n p e = ([], p, e) := by cases n <;> simp [rChs, h]
theorem rInts_0 {n : Nat} (h : e ≠ 0) : rInts bs n p e = ([], p, e) := by cases n <;> simp [rInts, h]
theorem rU_le (h : p ≤ bs.length) : (rU bs p e).2.1 ≤ bs.length := (rU_p h).2
theorem rZ_le (h : p ≤ bs.length) : (rZ bs p e).2.1 ≤ bs.length := (rZ_p h).2
theorem rB_le (h : p ≤ bs.length) : (rB bs p e).2.1 ≤ bs.length := (rB_p h).2
theorem rBool_le (h : p ≤ bs.length) : (rBool bs p e).2.1 ≤ bs.length := (rB_p h).2
theorem rLim_le {lim : Int} (h : p ≤ bs.length) : (rLim bs lim p e).2.1 ≤ bs.length := (rLim_p h).2
theorem rEl_le {lim : Int} (h : p ≤ bs.length) : (rEl bs lim p e).2.1 ≤ bs.length := (rLeft_p (rLim_p h)).2
theorem rCnt_le (h : p ≤ bs.length) : (rCnt bs p e).2.1 ≤ bs.length := (rLeft_p (rU_p h)).2
theorem rBytes_le {n : Nat} (h : p ≤ bs.length) : (rBytes bs n p e).2.1 ≤ bs.length := (rBytes_p h).2
end
end Go.V
