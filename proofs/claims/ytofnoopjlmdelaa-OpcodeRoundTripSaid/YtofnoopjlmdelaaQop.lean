/-
  Plain model of the reference's reader of operations.
  Conditions: none.
-/
import Derived.Test.YtofnoopjlmdelaaQdm
namespace Go.V
open Go

/-- reads one field -/
def qField (bs : List Int) (f : Int) (x : OpM) (p : Nat) (e : Int) : OpM × Nat × Int :=
  if f = 97 then ({ x with a := (qU bs 18446744073709551615 p e).1 }, (qU bs 18446744073709551615 p e).2)
  else if f = 98 then ({ x with b := (qU bs 18446744073709551615 p e).1 }, (qU bs 18446744073709551615 p e).2)
  else if f = 107 then ({ x with key := (qZ bs p e).1 }, (qZ bs p e).2)
  else if f = 118 then ({ x with val := (qZ bs p e).1 }, (qZ bs p e).2)
  else if f = 108 then ({ x with lo := (qZ bs p e).1 }, (qZ bs p e).2)
  else if f = 104 then ({ x with hi := (qZ bs p e).1 }, (qZ bs p e).2)
  else if f = 110 then ({ x with n := (qU bs 2147483647 p e).1 }, (qU bs 2147483647 p e).2)
  else if f = 102 then ({ x with flag := decide ((qC bs 1 p e).1 = 1) }, (qC bs 1 p e).2)
  else if f = 115 then ({ x with name := mkS (qText bs 32 p e).1 }, (qText bs 32 p e).2)
  else if f = 121 then ({ x with bytes := (qText bs 65536 p e).1 }, (qText bs 65536 p e).2)
  else if f = 101 then ({ x with ents := (qEnts bs (qSize bs 1000 p e).1.toNat (qSize bs 1000 p e).2.1 (qSize bs 1000 p e).2.2).1 }, (qEnts bs (qSize bs 1000 p e).1.toNat (qSize bs 1000 p e).2.1 (qSize bs 1000 p e).2.2).2)
  else if f = 99 then ({ x with chs := (qChs bs (qSize bs 1000 p e).1.toNat (qSize bs 1000 p e).2.1 (qSize bs 1000 p e).2.2).1 }, (qChs bs (qSize bs 1000 p e).1.toNat (qSize bs 1000 p e).2.1 (qSize bs 1000 p e).2.2).2)
  else (x, p, e)
theorem qField_A {bs : List Int} {x : OpM} {p : Nat} {e : Int} : qField bs 97 x p e = ({ x with a := (qU bs 18446744073709551615 p e).1 }, (qU bs 18446744073709551615 p e).2) := rfl
theorem qField_B {bs : List Int} {x : OpM} {p : Nat} {e : Int} : qField bs 98 x p e = ({ x with b := (qU bs 18446744073709551615 p e).1 }, (qU bs 18446744073709551615 p e).2) := rfl
theorem qField_K {bs : List Int} {x : OpM} {p : Nat} {e : Int} : qField bs 107 x p e = ({ x with key := (qZ bs p e).1 }, (qZ bs p e).2) := rfl
theorem qField_V {bs : List Int} {x : OpM} {p : Nat} {e : Int} : qField bs 118 x p e = ({ x with val := (qZ bs p e).1 }, (qZ bs p e).2) := rfl
theorem qField_L {bs : List Int} {x : OpM} {p : Nat} {e : Int} : qField bs 108 x p e = ({ x with lo := (qZ bs p e).1 }, (qZ bs p e).2) := rfl
theorem qField_H {bs : List Int} {x : OpM} {p : Nat} {e : Int} : qField bs 104 x p e = ({ x with hi := (qZ bs p e).1 }, (qZ bs p e).2) := rfl
theorem qField_N {bs : List Int} {x : OpM} {p : Nat} {e : Int} : qField bs 110 x p e = ({ x with n := (qU bs 2147483647 p e).1 }, (qU bs 2147483647 p e).2) := rfl
theorem qField_F {bs : List Int} {x : OpM} {p : Nat} {e : Int} : qField bs 102 x p e = ({ x with flag := decide ((qC bs 1 p e).1 = 1) }, (qC bs 1 p e).2) := rfl
theorem qField_S {bs : List Int} {x : OpM} {p : Nat} {e : Int} : qField bs 115 x p e = ({ x with name := mkS (qText bs 32 p e).1 }, (qText bs 32 p e).2) := rfl
theorem qField_Y {bs : List Int} {x : OpM} {p : Nat} {e : Int} : qField bs 121 x p e = ({ x with bytes := (qText bs 65536 p e).1 }, (qText bs 65536 p e).2) := rfl
theorem qField_E {bs : List Int} {x : OpM} {p : Nat} {e : Int} : qField bs 101 x p e = ({ x with ents := (qEnts bs (qSize bs 1000 p e).1.toNat (qSize bs 1000 p e).2.1 (qSize bs 1000 p e).2.2).1 }, (qEnts bs (qSize bs 1000 p e).1.toNat (qSize bs 1000 p e).2.1 (qSize bs 1000 p e).2.2).2) := rfl
theorem qField_C {bs : List Int} {x : OpM} {p : Nat} {e : Int} : qField bs 99 x p e = ({ x with chs := (qChs bs (qSize bs 1000 p e).1.toNat (qSize bs 1000 p e).2.1 (qSize bs 1000 p e).2.2).1 }, (qChs bs (qSize bs 1000 p e).1.toNat (qSize bs 1000 p e).2.1 (qSize bs 1000 p e).2.2).2) := rfl
def Ltr32 (f : Int) : Prop := f = 97 ∨ f = 98 ∨ f = 107 ∨ f = 118 ∨ f = 108 ∨ f = 104 ∨ f = 110 ∨ f = 102 ∨ f = 115 ∨ f = 121 ∨ f = 101 ∨ f = 99
theorem qField_no {bs : List Int} {f : Int} {x : OpM} {p : Nat} {e : Int} (h : ¬ Ltr32 f) : qField bs f x p e = (x, p, e) := by
  unfold Ltr32 at h
  unfold qField
  rw [if_neg (by omega)]
  rw [if_neg (by omega)]
  rw [if_neg (by omega)]
  rw [if_neg (by omega)]
  rw [if_neg (by omega)]
  rw [if_neg (by omega)]
  rw [if_neg (by omega)]
  rw [if_neg (by omega)]
  rw [if_neg (by omega)]
  rw [if_neg (by omega)]
  rw [if_neg (by omega)]
  rw [if_neg (by omega)]
theorem qField_le {bs : List Int} {f : Int} {x : OpM} {p : Nat} {e : Int} (hb : B8 bs) (h : p ≤ bs.length) : (qField bs f x p e).2.1 ≤ bs.length := by
  by_cases hf : Ltr32 f
  · unfold Ltr32 at hf
    rcases hf with rfl | rfl | rfl | rfl | rfl | rfl | rfl | rfl | rfl | rfl | rfl | rfl
    · rw [qField_A]; exact qU_le h
    · rw [qField_B]; exact qU_le h
    · rw [qField_K]; exact qZ_le h
    · rw [qField_V]; exact qZ_le h
    · rw [qField_L]; exact qZ_le h
    · rw [qField_H]; exact qZ_le h
    · rw [qField_N]; exact qU_le h
    · rw [qField_F]; exact qC_le h
    · rw [qField_S]; exact qText_le hb (by omega) h
    · rw [qField_Y]; exact qText_le hb (by omega) h
    · rw [qField_E]; exact qEnts_le (qSize_le h)
    · rw [qField_C]; exact qChs_le (qSize_le h)
  · rw [qField_no hf]; exact h
def qFields (bs : List Int) : List Int → OpM → Nat → Int → OpM × Nat × Int
  | [], x, p, e => (x, p, e)
  | f :: l, x, p, e => if e ≠ 0 then (x, p, e) else qFields bs l (qField bs (f + 32) x p e).1 (qField bs (f + 32) x p e).2.1 (qField bs (f + 32) x p e).2.2
/-- the reader of operations -/
def qOpr (bs : List Int) (p : Nat) : OpM × Nat × Int :=
  let c := qC bs 255 p 0
  let r := qFields bs (fs c.1) (op0 c.1) c.2.1 (if c.2.2 = 0 ∧ ¬ isOp c.1 = true then 13 else c.2.2)
  if r.2.2 ≠ 0 then (op0 0, 0, r.2.2) else r
def qNx (bs : List Int) (at_ : Int) : OpM × Int × Int := if at_ < 0 ∨ (bs.length : Int) < at_ then (op0 0, 0, 1) else ((qOpr bs at_.toNat).1, ((qOpr bs at_.toNat).2.1 : Int), (qOpr bs at_.toNat).2.2)
theorem qInts_p {bs : List Int} : ∀ (n p : Nat) (e : Int), p ≤ bs.length → (qInts bs n p e).2.1 ≤ bs.length ∧ (qInts bs n p e).1.length ≤ n
  | 0, p, e, h => ⟨h, Nat.le_refl _⟩
  | n + 1, p, e, h => by
    unfold qInts
    split
    · exact ⟨h, Nat.zero_le _⟩
    · have := qInts_p n _ (qZ bs p e).2.2 (qZ_le (e := e) h)
      exact ⟨this.1, by simp only [List.length_cons]; omega⟩
theorem qFields_end {bs l : List Int} {x : OpM} {p k : Nat} {e : Int} (h : ¬ (k < l.length ∧ e = 0)) : qFields bs (l.drop k) x p e = (x, p, e) := by
  by_cases hk : k < l.length
  · rw [drop_getD hk, qFields, if_pos (fun h2 => h ⟨hk, h2⟩)]
  · rw [List.drop_eq_nil_of_le (by omega)]; rfl
theorem qFields_go {bs l : List Int} {x : OpM} {p k : Nat} {e : Int} (h : k < l.length ∧ e = 0) : qFields bs (l.drop k) x p e = qFields bs (l.drop (k + 1)) (qField bs (l.getD k 0 + 32) x p e).1 (qField bs (l.getD k 0 + 32) x p e).2.1 (qField bs (l.getD k 0 + 32) x p e).2.2 := by
  rw [drop_getD h.1, qFields, if_neg (by simp [h.2])]

/-! ### answers -/
def qan18 (r1 : Int × Nat × Int) (r2 : Int × Nat × Int) (r3 : Int × Nat × Int) (r4 : Int × Nat × Int) (r5 : Int × Nat × Int) (r6 : Int × Nat × Int) (r7 : Int × Nat × Int) (r8 : Int × Nat × Int) (r9 : Int × Nat × Int) (r10 : Int × Nat × Int) (r11 : Int × Nat × Int) (r13 : List (Int × Int) × Nat × Int) (r15 : List (Int × Int × Int × Int) × Nat × Int) (r17 : List Int × Nat × Int) (r18 : List Int × Nat × Int) : AnM × Nat × Int := ({ err := r1.1, handle := r2.1, value := r3.1, found := decide (r4.1 = 1), n := r5.1, ekey := r6.1, eval := r7.1, count := r8.1, sum := r9.1, mn := r10.1, mx := r11.1, ents := r13.1, chs := r15.1, keys := r17.1, bytes := r18.1 }, r18.2)
def qan17 (bs : List Int) (r1 : Int × Nat × Int) (r2 : Int × Nat × Int) (r3 : Int × Nat × Int) (r4 : Int × Nat × Int) (r5 : Int × Nat × Int) (r6 : Int × Nat × Int) (r7 : Int × Nat × Int) (r8 : Int × Nat × Int) (r9 : Int × Nat × Int) (r10 : Int × Nat × Int) (r11 : Int × Nat × Int) (r13 : List (Int × Int) × Nat × Int) (r15 : List (Int × Int × Int × Int) × Nat × Int) (r17 : List Int × Nat × Int) : AnM × Nat × Int := qan18 r1 r2 r3 r4 r5 r6 r7 r8 r9 r10 r11 r13 r15 r17 (qText bs 18446744073709551615 r17.2.1 r17.2.2)
def qan16 (bs : List Int) (r1 : Int × Nat × Int) (r2 : Int × Nat × Int) (r3 : Int × Nat × Int) (r4 : Int × Nat × Int) (r5 : Int × Nat × Int) (r6 : Int × Nat × Int) (r7 : Int × Nat × Int) (r8 : Int × Nat × Int) (r9 : Int × Nat × Int) (r10 : Int × Nat × Int) (r11 : Int × Nat × Int) (r13 : List (Int × Int) × Nat × Int) (r15 : List (Int × Int × Int × Int) × Nat × Int) (r16 : Int × Nat × Int) : AnM × Nat × Int := qan17 bs r1 r2 r3 r4 r5 r6 r7 r8 r9 r10 r11 r13 r15 (qInts bs r16.1.toNat r16.2.1 r16.2.2)
def qan15 (bs : List Int) (r1 : Int × Nat × Int) (r2 : Int × Nat × Int) (r3 : Int × Nat × Int) (r4 : Int × Nat × Int) (r5 : Int × Nat × Int) (r6 : Int × Nat × Int) (r7 : Int × Nat × Int) (r8 : Int × Nat × Int) (r9 : Int × Nat × Int) (r10 : Int × Nat × Int) (r11 : Int × Nat × Int) (r13 : List (Int × Int) × Nat × Int) (r15 : List (Int × Int × Int × Int) × Nat × Int) : AnM × Nat × Int := qan16 bs r1 r2 r3 r4 r5 r6 r7 r8 r9 r10 r11 r13 r15 (qSize bs 18446744073709551615 r15.2.1 r15.2.2)
def qan14 (bs : List Int) (r1 : Int × Nat × Int) (r2 : Int × Nat × Int) (r3 : Int × Nat × Int) (r4 : Int × Nat × Int) (r5 : Int × Nat × Int) (r6 : Int × Nat × Int) (r7 : Int × Nat × Int) (r8 : Int × Nat × Int) (r9 : Int × Nat × Int) (r10 : Int × Nat × Int) (r11 : Int × Nat × Int) (r13 : List (Int × Int) × Nat × Int) (r14 : Int × Nat × Int) : AnM × Nat × Int := qan15 bs r1 r2 r3 r4 r5 r6 r7 r8 r9 r10 r11 r13 (qChs bs r14.1.toNat r14.2.1 r14.2.2)
def qan13 (bs : List Int) (r1 : Int × Nat × Int) (r2 : Int × Nat × Int) (r3 : Int × Nat × Int) (r4 : Int × Nat × Int) (r5 : Int × Nat × Int) (r6 : Int × Nat × Int) (r7 : Int × Nat × Int) (r8 : Int × Nat × Int) (r9 : Int × Nat × Int) (r10 : Int × Nat × Int) (r11 : Int × Nat × Int) (r13 : List (Int × Int) × Nat × Int) : AnM × Nat × Int := qan14 bs r1 r2 r3 r4 r5 r6 r7 r8 r9 r10 r11 r13 (qSize bs 18446744073709551615 r13.2.1 r13.2.2)
def qan12 (bs : List Int) (r1 : Int × Nat × Int) (r2 : Int × Nat × Int) (r3 : Int × Nat × Int) (r4 : Int × Nat × Int) (r5 : Int × Nat × Int) (r6 : Int × Nat × Int) (r7 : Int × Nat × Int) (r8 : Int × Nat × Int) (r9 : Int × Nat × Int) (r10 : Int × Nat × Int) (r11 : Int × Nat × Int) (r12 : Int × Nat × Int) : AnM × Nat × Int := qan13 bs r1 r2 r3 r4 r5 r6 r7 r8 r9 r10 r11 (qEnts bs r12.1.toNat r12.2.1 r12.2.2)
def qan11 (bs : List Int) (r1 : Int × Nat × Int) (r2 : Int × Nat × Int) (r3 : Int × Nat × Int) (r4 : Int × Nat × Int) (r5 : Int × Nat × Int) (r6 : Int × Nat × Int) (r7 : Int × Nat × Int) (r8 : Int × Nat × Int) (r9 : Int × Nat × Int) (r10 : Int × Nat × Int) (r11 : Int × Nat × Int) : AnM × Nat × Int := qan12 bs r1 r2 r3 r4 r5 r6 r7 r8 r9 r10 r11 (qSize bs 18446744073709551615 r11.2.1 r11.2.2)
def qan10 (bs : List Int) (r1 : Int × Nat × Int) (r2 : Int × Nat × Int) (r3 : Int × Nat × Int) (r4 : Int × Nat × Int) (r5 : Int × Nat × Int) (r6 : Int × Nat × Int) (r7 : Int × Nat × Int) (r8 : Int × Nat × Int) (r9 : Int × Nat × Int) (r10 : Int × Nat × Int) : AnM × Nat × Int := qan11 bs r1 r2 r3 r4 r5 r6 r7 r8 r9 r10 (qZ bs r10.2.1 r10.2.2)
def qan9 (bs : List Int) (r1 : Int × Nat × Int) (r2 : Int × Nat × Int) (r3 : Int × Nat × Int) (r4 : Int × Nat × Int) (r5 : Int × Nat × Int) (r6 : Int × Nat × Int) (r7 : Int × Nat × Int) (r8 : Int × Nat × Int) (r9 : Int × Nat × Int) : AnM × Nat × Int := qan10 bs r1 r2 r3 r4 r5 r6 r7 r8 r9 (qZ bs r9.2.1 r9.2.2)
def qan8 (bs : List Int) (r1 : Int × Nat × Int) (r2 : Int × Nat × Int) (r3 : Int × Nat × Int) (r4 : Int × Nat × Int) (r5 : Int × Nat × Int) (r6 : Int × Nat × Int) (r7 : Int × Nat × Int) (r8 : Int × Nat × Int) : AnM × Nat × Int := qan9 bs r1 r2 r3 r4 r5 r6 r7 r8 (qZ bs r8.2.1 r8.2.2)
def qan7 (bs : List Int) (r1 : Int × Nat × Int) (r2 : Int × Nat × Int) (r3 : Int × Nat × Int) (r4 : Int × Nat × Int) (r5 : Int × Nat × Int) (r6 : Int × Nat × Int) (r7 : Int × Nat × Int) : AnM × Nat × Int := qan8 bs r1 r2 r3 r4 r5 r6 r7 (qZ bs r7.2.1 r7.2.2)
def qan6 (bs : List Int) (r1 : Int × Nat × Int) (r2 : Int × Nat × Int) (r3 : Int × Nat × Int) (r4 : Int × Nat × Int) (r5 : Int × Nat × Int) (r6 : Int × Nat × Int) : AnM × Nat × Int := qan7 bs r1 r2 r3 r4 r5 r6 (qZ bs r6.2.1 r6.2.2)
def qan5 (bs : List Int) (r1 : Int × Nat × Int) (r2 : Int × Nat × Int) (r3 : Int × Nat × Int) (r4 : Int × Nat × Int) (r5 : Int × Nat × Int) : AnM × Nat × Int := qan6 bs r1 r2 r3 r4 r5 (qZ bs r5.2.1 r5.2.2)
def qan4 (bs : List Int) (r1 : Int × Nat × Int) (r2 : Int × Nat × Int) (r3 : Int × Nat × Int) (r4 : Int × Nat × Int) : AnM × Nat × Int := qan5 bs r1 r2 r3 r4 (qZ bs r4.2.1 r4.2.2)
def qan3 (bs : List Int) (r1 : Int × Nat × Int) (r2 : Int × Nat × Int) (r3 : Int × Nat × Int) : AnM × Nat × Int := qan4 bs r1 r2 r3 (qC bs 1 r3.2.1 r3.2.2)
def qan2 (bs : List Int) (r1 : Int × Nat × Int) (r2 : Int × Nat × Int) : AnM × Nat × Int := qan3 bs r1 r2 (qZ bs r2.2.1 r2.2.2)
def qan1 (bs : List Int) (r1 : Int × Nat × Int) : AnM × Nat × Int := qan2 bs r1 (qU bs 18446744073709551615 r1.2.1 r1.2.2)
/-- the reference's reader of answers -/
def qAns (bs : List Int) (p : Nat) : AnM × Nat × Int := qan1 bs (qU bs 255 p 0)
def qNxa (bs : List Int) (at_ : Int) : AnM × Int × Int :=
  if at_ < 0 ∨ (bs.length : Int) < at_ then (an0, 0, 1) else if (qAns bs at_.toNat).2.2 ≠ 0 then (an0, 0, (qAns bs at_.toNat).2.2) else ((qAns bs at_.toNat).1, ((qAns bs at_.toNat).2.1 : Int), 0)
/-! ### the two readers agree: they tell the same error, and everything where there is none -/
def Sim {α : Type} (r q : α × Nat × Int) : Prop := q.2.2 = r.2.2 ∧ (r.2.2 = 0 → q = r)
section
variable {bs : List Int} {p : Nat} {e : Int}
theorem Sim.refl {α : Type} (r : α × Nat × Int) : Sim r r := ⟨rfl, fun _ => rfl⟩
theorem sim_U (hb : B8 bs) : Sim (rU bs p e) (qU bs 18446744073709551615 p e) := by
  have h0 := uvGo_bd (bs.drop p) 0 0 (fun x hx => hb x (List.mem_of_mem_drop hx)) UvB.start
  have h1 : ¬ (18446744073709551615 < (uv (bs.drop p)).1) := by unfold uv; omega
  unfold rU qU
  by_cases he : e = 0
  · simp only [he, ne_eq, not_true_eq_false, if_false]
    by_cases hu : (uv (bs.drop p)).2.2 = 0
    · simp only [hu, not_true_eq_false, if_false, if_true, h1]; exact Sim.refl _
    · simp only [hu, not_false_eq_true, if_true, if_false]; exact Sim.refl _
  · simp only [he, ne_eq, not_false_eq_true, if_true]; exact Sim.refl _
theorem sim_Lim {lim : Int} (hl : 0 ≤ lim) : Sim (rLim bs lim p e) (qU bs lim p e) := by
  unfold rLim rU qU
  by_cases he : e = 0
  · simp only [he, ne_eq, not_true_eq_false, if_false]
    by_cases hu : (uv (bs.drop p)).2.2 = 0
    · simp only [hu, not_true_eq_false, if_false, if_true]
      by_cases hm : lim < (uv (bs.drop p)).1
      · simp only [hm, if_true]; exact ⟨rfl, fun h => by simp [fl] at h⟩
      · simp only [hm, if_false]; exact Sim.refl _
    · simp only [hu, not_false_eq_true, if_true, if_false]
      rw [if_neg (by omega)]; exact Sim.refl _
  · simp only [he, ne_eq, not_false_eq_true, if_true]
    rw [if_neg (by omega)]; exact Sim.refl _
theorem sim_Z (hb : B8 bs) : Sim (rZ bs p e) (qZ bs p e) := by
  obtain ⟨h1, h2⟩ := sim_U (p := p) (e := e) hb
  exact ⟨h1, fun h => by unfold rZ qZ; rw [h2 h]⟩
theorem sim_C (hb : B8 bs) : Sim (rB bs p e) (qC bs 255 p e) := by
  unfold rB qC
  by_cases he : e = 0
  · simp only [he, ne_eq, not_true_eq_false, if_false]
    cases hc : bs[p]? with
    | none => exact Sim.refl _
    | some c =>
      have := hb _ (List.mem_of_getElem? hc)
      simp only
      rw [if_neg (by omega)]; exact Sim.refl _
  · simp only [he, ne_eq, not_false_eq_true, if_true]; exact Sim.refl _
theorem sim_Bool : Sim (rBool bs p e) (decide ((qC bs 1 p e).1 = 1), (qC bs 1 p e).2) := by
  unfold rBool rB qC
  by_cases he : e = 0
  · simp only [he, ne_eq, not_true_eq_false, if_false]
    cases hc : bs[p]? with
    | none => simp only; exact ⟨rfl, fun h => by simp at h⟩
    | some c =>
      simp only
      by_cases h1 : 1 < c
      · rw [if_pos h1]; simp only [h1, if_true]; exact ⟨rfl, fun h => by simp [fl] at h⟩
      · rw [if_neg h1]; simp only [h1, if_false]; exact Sim.refl _
  · simp only [he, ne_eq, not_false_eq_true, if_true]
    exact ⟨rfl, fun h => absurd h he⟩
end
end Go.V
