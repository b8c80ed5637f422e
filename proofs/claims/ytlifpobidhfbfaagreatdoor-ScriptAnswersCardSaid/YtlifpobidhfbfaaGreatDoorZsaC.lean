/-
  What the proof of Jsa stands on, part 3.
  Conditions: none.
-/
import Derived.Test.YtlifpobidhfbfaaGreatDoorZsaB
set_option maxRecDepth 8192
namespace Go.V
open Go
def fl (e e2 : Int) : Int := if e = 0 then e2 else e
def rU (bs : List Int) (p : Nat) (e : Int) : Int × Nat × Int :=
 if e ≠ 0 then (0, p, e) else if (uv (bs.drop p)).2.2 = 0 then ((uv (bs.drop p)).1, p + (uv (bs.drop p)).2.1, 0) else (0, p, (uv (bs.drop p)).2.2)
def rZ (bs : List Int) (p : Nat) (e : Int) : Int × Nat × Int := (uz (rU bs p e).1, (rU bs p e).2)
def rB (bs : List Int) (p : Nat) (e : Int) : Int × Nat × Int := if e ≠ 0 then (0, p, e) else match bs[p]? with | none => (0, p, 12) | some c => (c, p + 1, 0)
def Xo (bs : List Int) (p : Nat) (e : Int) : Bool × Nat × Int := (decide ((rB bs p e).1 = 1), (rB bs p e).2.1, if 1 < (rB bs p e).1 then fl (rB bs p e).2.2 13 else (rB bs p e).2.2)
def Xs (bs : List Int) (lim : Int) (p : Nat) (e : Int) : Int × Nat × Int := if lim < (rU bs p e).1 then (0, (rU bs p e).2.1, fl (rU bs p e).2.2 13) else rU bs p e
def Zv (bs : List Int) (r : Int × Nat × Int) : Int × Nat × Int := if (bs.length : Int) - r.2.1 < r.1 then (0, r.2.1, fl r.2.2 12) else r
def Yy (bs : List Int) (p : Nat) (e : Int) : Int × Nat × Int := Zv bs (rU bs p e)
def Zs (bs : List Int) (n : Nat) (p : Nat) (e : Int) : List Int × Nat × Int :=
 if bs.length - p < n then ([], p, fl e 12) else if e ≠ 0 ∨ n = 0 then ([], p, e) else ((bs.drop p).take n, p + n, e)
def ZJ (bs : List Int) : Nat → Nat → Int → List (Int × Int) × Nat × Int
 | 0, p, e => ([], p, e)
 | n + 1, p, e => if e ≠ 0 then ([], p, e) else
  let k := rZ bs p e
  let v := rZ bs k.2.1 k.2.2
  let r := ZJ bs n v.2.1 v.2.2
  ((k.1, v.1) :: r.1, r.2)
def Z7 (bs : List Int) : Nat → Nat → Int → List (Int × Int × Int × Int) × Nat × Int
 | 0, p, e => ([], p, e)
 | n + 1, p, e => if e ≠ 0 then ([], p, e) else
  let c := rB bs p e
  let k := rZ bs c.2.1 c.2.2
  let u := rZ bs k.2.1 k.2.2
  let v := rZ bs u.2.1 u.2.2
  let r := Z7 bs n v.2.1 v.2.2
  ((c.1, k.1, u.1, v.1) :: r.1, r.2)
def Yq (bs : List Int) : Nat → Nat → Int → List Int × Nat × Int
 | 0, p, e => ([], p, e)
 | n + 1, p, e => if e ≠ 0 then ([], p, e) else
  let k := rZ bs p e
  let r := Yq bs n k.2.1 k.2.2
  (k.1 :: r.1, r.2)
section
variable {bs : List Int} {p : Nat} {e : Int}
theorem CW (h : p ≤ bs.length) : p ≤ (rU bs p e).2.1 ∧ (rU bs p e).2.1 ≤ bs.length := by
 unfold rU
 split
 ·exact ⟨Nat.le_refl _, h⟩
 ·split
  ·rename_i h0
   have := J9 (bs.drop p) 0 0 h0
   simp only [List.length_drop] at this
   unfold uv
   simp only; omega
  ·exact ⟨Nat.le_refl _, h⟩
theorem C' (hb : B8 bs) : 0 ≤ (rU bs p e).1 ∧ (rU bs p e).1 ≤ 18446744073709551615 := by
 unfold rU
 split
 ·simp
 ·split
  ·exact H4 _ 0 0 (fun x hx => hb x (List.mem_of_mem_drop hx)) UvB.start
  ·simp
theorem DN (h : p ≤ bs.length) : p ≤ (rZ bs p e).2.1 ∧ (rZ bs p e).2.1 ≤ bs.length := CW h
theorem Zel (h : p ≤ bs.length) : p ≤ (rB bs p e).2.1 ∧ (rB bs p e).2.1 ≤ bs.length := by
 unfold rB
 split
 ·exact ⟨Nat.le_refl _, h⟩
 ·split
  ·exact ⟨Nat.le_refl _, h⟩
  ·rename_i hc; have := (List.getElem?_eq_some_iff.1 hc).1; simp only; omega
theorem rB_b (hb : B8 bs) : 0 ≤ (rB bs p e).1 ∧ (rB bs p e).1 ≤ 255 := by
 unfold rB
 split
 ·simp
 ·split
  ·simp
  ·rename_i hc; exact hb _ (List.mem_of_getElem? hc)
theorem Zcx {lim : Int} (h : p ≤ bs.length) : p ≤ (Xs bs lim p e).2.1 ∧ (Xs bs lim p e).2.1 ≤ bs.length := by
 unfold Xs; split <;> exact CW h
theorem Zen {lim : Int} (hb : B8 bs) (hl : 0 ≤ lim) : 0 ≤ (Xs bs lim p e).1 ∧ (Xs bs lim p e).1 ≤ lim := by
 unfold Xs
 split
 ·simp [hl]
 ·have := (C' (p := p) (e := e) hb).1; omega
theorem Zbk {r : Int × Nat × Int} (h : p ≤ r.2.1 ∧ r.2.1 ≤ bs.length) : p ≤ (Zv bs r).2.1 ∧ (Zv bs r).2.1 ≤ bs.length := by
 unfold Zv; split <;> exact h
theorem Zap {r : Int × Nat × Int} (h0 : 0 ≤ r.1) (hp : r.2.1 ≤ bs.length) : 0 ≤ (Zv bs r).1 ∧ (Zv bs r).1 + (Zv bs r).2.1 ≤ bs.length := by
 unfold Zv
 split
 ·simp only; omega
 ·omega
theorem Vi {n : Nat} (h : p ≤ bs.length) : p ≤ (Zs bs n p e).2.1 ∧ (Zs bs n p e).2.1 ≤ bs.length := by
 unfold Zs; split
 ·exact ⟨Nat.le_refl _, h⟩
 ·split
  ·exact ⟨Nat.le_refl _, h⟩
  ·simp only; omega
theorem QW (hb : B8 bs) (h : p ≤ bs.length) : 0 ≤ (Yy bs p e).1 ∧ (Yy bs p e).1 + (Yy bs p e).2.1 ≤ bs.length := Zap (C' hb).1 (CW h).2
theorem QN : ∀ (n p : Nat) (e : Int), p ≤ bs.length → (ZJ bs n p e).2.1 ≤ bs.length ∧ (ZJ bs n p e).1.length ≤ n
 | 0, p, e, h => ⟨h, Nat.le_refl _⟩
 | n + 1, p, e, h => by
  unfold ZJ
  split
  ·exact ⟨h, Nat.zero_le _⟩
  ·have := QN n _ (rZ bs (rZ bs p e).2.1 (rZ bs p e).2.2).2.2 (DN (e := (rZ bs p e).2.2) (DN (e := e) h).2).2
   exact ⟨this.1, by simp only [List.length_cons]; omega⟩
theorem U7 : ∀ (n p : Nat) (e : Int), p ≤ bs.length → (Z7 bs n p e).2.1 ≤ bs.length ∧ (Z7 bs n p e).1.length ≤ n
 | 0, p, e, h => ⟨h, Nat.le_refl _⟩
 | n + 1, p, e, h => by
  unfold Z7
  split
  ·exact ⟨h, Nat.zero_le _⟩
  ·have h1 := (Zel (e := e) h).2
   have h2 := (DN (e := (rB bs p e).2.2) h1).2
   have h3 := (DN (e := (rZ bs (rB bs p e).2.1 (rB bs p e).2.2).2.2) h2).2
   have h4 := (DN (e := (rZ bs (rZ bs (rB bs p e).2.1 (rB bs p e).2.2).2.1 (rZ bs (rB bs p e).2.1 (rB bs p e).2.2).2.2).2.2) h3).2
   have := U7 n _ (rZ bs (rZ bs (rZ bs (rB bs p e).2.1 (rB bs p e).2.2).2.1 (rZ bs (rB bs p e).2.1 (rB bs p e).2.2).2.2).2.1 (rZ bs (rZ bs (rB bs p e).2.1 (rB bs p e).2.2).2.1 (rZ bs (rB bs p e).2.1 (rB bs p e).2.2).2.2).2.2).2.2 h4
   exact ⟨this.1, by simp only [List.length_cons]; omega⟩
theorem Hd {n : Nat} : (Zs bs n p e).1.length ≤ bs.length := by
 unfold Zs; split
 ·exact Nat.zero_le _
 ·split
  ·exact Nat.zero_le _
  ·simp only [List.length_take, List.length_drop]; omega
theorem DI {n : Nat} (hb : B8 bs) : B8 (Zs bs n p e).1 := by
 unfold Zs; split
 ·intro _ h; cases h
 ·split
  ·intro _ h; cases h
  ·intro x hx; exact hb x (List.mem_of_mem_drop (List.mem_of_mem_take hx))
theorem CY {n : Nat} (h : p ≤ bs.length) : (ZJ bs n p e).2.1 ≤ bs.length := (QN n p e h).1
theorem V8 {n : Nat} (h : p ≤ bs.length) : (Z7 bs n p e).2.1 ≤ bs.length := (U7 n p e h).1
theorem Jz {n : Nat} (h : e ≠ 0) : ZJ bs n p e = ([], p, e) := by cases n <;> simp [ZJ, h]
theorem Jg {n : Nat} (h : e ≠ 0) : Z7 bs n p e = ([], p, e) := by cases n <;> simp [Z7, h]
theorem QK {n : Nat} (h : e ≠ 0) : Yq bs n p e = ([], p, e) := by cases n <;> simp [Yq, h]
theorem H3 (h : p ≤ bs.length) : (rU bs p e).2.1 ≤ bs.length := (CW h).2
theorem YK (h : p ≤ bs.length) : (rZ bs p e).2.1 ≤ bs.length := (DN h).2
theorem Zcb (h : p ≤ bs.length) : (rB bs p e).2.1 ≤ bs.length := (Zel h).2
theorem Ct (h : p ≤ bs.length) : (Xo bs p e).2.1 ≤ bs.length := (Zel h).2
theorem Zar {lim : Int} (h : p ≤ bs.length) : (Xs bs lim p e).2.1 ≤ bs.length := (Zcx h).2
theorem JD (h : p ≤ bs.length) : (Yy bs p e).2.1 ≤ bs.length := (Zbk (CW h)).2
theorem DP {n : Nat} (h : p ≤ bs.length) : (Zs bs n p e).2.1 ≤ bs.length := (Vi h).2
end
end Go.V
namespace Go.V
open Go
structure OpM where
 code : Int
 a : Int
 b : Int
 key : Int
 val : Int
 lo : Int
 hi : Int
 n : Int
 flag : Bool
 name : ByteArray
 bytes : List Int
 ents : List (Int × Int)
 chs : List (Int × Int × Int × Int)
def tbl : List (List Int) := [[], [], [65, 75], [65, 75, 86], [65, 75], [65, 75, 86], [65, 67], [69], [65], [65], [65, 66, 78], [65, 66, 78, 86], [65, 76, 72, 78], [65, 66], [65, 66], [65, 75, 78], [65, 75], [65, 78], [65, 76, 72], [65, 76, 72, 78], [65, 76, 72, 78, 70, 89], [65, 76, 72], [65, 75, 78], [65], [65, 66, 83], [83], [65], [65, 75], [65, 76, 72], [65, 75, 86], [65, 75], [65, 66], [65], [65, 66], [66, 89], []]
def fs (c : Int) : List Int := tbl.getD c.toNat []
def Zdo (c : Int) : Bool := decide (1 ≤ c ∧ c ≤ 35)
theorem Za1 {c : Int} (h : ¬ (1 ≤ c ∧ c ≤ 35)) : fs c = [] := by
 unfold fs
 rcases Int.lt_or_le c 1 with h1 | h1
 ·have : c.toNat = 0 := by omega
  rw [this]; rfl
 ·rw [List.getD_eq_getElem?_getD, List.getElem?_eq_none (by show 36 ≤ c.toNat; omega)]; rfl
theorem Zep {q : List Int → Prop} (h : ∀ l ∈ tbl, q l) (c : Int) : q (fs c) := by
 unfold fs
 rw [List.getD_eq_getElem?_getD]
 cases hx : tbl[c.toNat]? with
 | none => exact h [] (by decide)
 | some l => exact h l (List.mem_of_getElem? hx)
theorem fs_as (c : Int) : As7 (fs c) := Zep (by unfold As7; decide) c
def Xg (f : Int) : Prop := f = 65 ∨ f = 66 ∨ f = 75 ∨ f = 86 ∨ f = 76 ∨ f = 72 ∨ f = 78 ∨ f = 70 ∨ f = 83 ∨ f = 89 ∨ f = 69 ∨ f = 67
def op0 (c : Int) : OpM := { code := c, a := 0, b := 0, key := 0, val := 0, lo := 0, hi := 0, n := 0, flag := false, name := ⟨#[]⟩, bytes := [], ents := [], chs := [] }
theorem Dw {l : List Int} {k : Nat} (h : k < l.length) : l.drop k = l.getD k 0 :: l.drop (k + 1) := by
 rw [List.drop_eq_getElem_cons h, List.getD_eq_getElem?_getD, List.getElem?_eq_getElem h]; rfl
theorem getD_some {l : List Int} {k : Nat} (h : k < l.length) : l[k]? = some (l.getD k 0) := by
 rw [List.getD_eq_getElem?_getD, List.getElem?_eq_getElem h]; rfl
def eU (u : Int) : List Int := Zu u.toNat
theorem ZO {u : Int} (h : u ≤ 18446744073709551615) : (eU u).length ≤ 10 := Yi 10 _ (by omega) (by omega)
def eZ (n : Int) : List Int := Zu (zz n).toNat
def eF (b : Bool) : List Int := [if b then 1 else 0]
def Yp (l : List Int) : List Int := eU l.length ++ l
def YF (l : List (Int × Int)) : List Int := eU l.length ++ l.flatMap fun x => eZ x.1 ++ eZ x.2
def XO (l : List (Int × Int × Int × Int)) : List Int := eU l.length ++ l.flatMap fun x => x.1 % 256 :: (eZ x.2.1 ++ eZ x.2.2.1 ++ eZ x.2.2.2)
def Z8 (n : Int) : Prop := -9223372036854775808 ≤ n ∧ n ≤ 9223372036854775807
def DF (l : List Int) : Prop := ∀ x ∈ l, Z8 x
def Ua (l : List (Int × Int)) : Prop := ∀ x ∈ l, Z8 x.1 ∧ Z8 x.2
def Qm (l : List (Int × Int × Int × Int)) : Prop := ∀ x ∈ l, Z8 x.1 ∧ Z8 x.2.1 ∧ Z8 x.2.2.1 ∧ Z8 x.2.2.2
theorem Zl {n : Int} (h : Z8 n) : (eZ n).length ≤ 10 := Yi 10 _ (by have := Zbz h; omega) (by omega)
theorem XQ {l : List Int} (h : l.length ≤ 1000000) : (Yp l).length ≤ 10 + l.length := by
 rw [Yp, List.length_append]; exact Nat.add_le_add_right (ZO (by omega)) _
theorem JZ {α : Type} {f : α → List Int} {m : Nat} : ∀ {l : List α}, (∀ x ∈ l, (f x).length ≤ m) → (l.flatMap f).length ≤ m * l.length
 | [], _ => Nat.zero_le _
 | x :: l, h => by
  have h1 := h x (List.mem_cons_self ..)
  have h2 := JZ (l := l) (fun y hy => h y (List.mem_cons_of_mem _ hy))
  simp only [List.flatMap_cons, List.length_append, List.length_cons, Nat.mul_succ]
  omega
def U4 (x : Int × Int) : List Int := eZ x.1 ++ eZ x.2
def HE (x : Int × Int × Int × Int) : List Int := x.1 % 256 :: (eZ x.2.1 ++ eZ x.2.2.1 ++ eZ x.2.2.2)
theorem Zbn {x : Int × Int} (h : Z8 x.1 ∧ Z8 x.2) : (U4 x).length ≤ 20 := by
 have h1 := Zl h.1; have h2 := Zl h.2
 simp only [U4, List.length_append]; omega
theorem Zbv {x : Int × Int × Int × Int} (h : Z8 x.1 ∧ Z8 x.2.1 ∧ Z8 x.2.2.1 ∧ Z8 x.2.2.2) : (HE x).length ≤ 31 := by
 have h1 := Zl h.2.1; have h2 := Zl h.2.2.1; have h3 := Zl h.2.2.2
 simp only [HE, List.length_append, List.length_cons]; omega
theorem Jd {l : List (Int × Int)} (h : Ua l) (hl : l.length ≤ 10000) : (YF l).length ≤ 10 + 20 * l.length := by
 rw [YF, List.length_append]; exact Nat.add_le_add (ZO (by omega)) (JZ fun x hx => Zbn (h x hx))
theorem JY {l : List (Int × Int × Int × Int)} (h : Qm l) (hl : l.length ≤ 10000) : (XO l).length ≤ 10 + 31 * l.length := by
 rw [XO, List.length_append]; exact Nat.add_le_add (ZO (by omega)) (JZ fun x hx => Zbv (h x hx))
theorem Dv {l : List Int} (h : DF l) : (l.flatMap eZ).length ≤ 10 * l.length := JZ fun x hx => Zl (h x hx)
theorem Xd {α : Type} (f : α → List Int) {l : List α} {k : Nat} {x : α} (h : l[k]? = some x) : (l.take (k + 1)).flatMap f = (l.take k).flatMap f ++ f x := by
 rw [List.take_add_one, h]; simp
theorem XP {α : Type} (f : α → List Int) {l : List α} {k : Nat} (h : l.length ≤ k) : (l.take k).flatMap f = l.flatMap f := by
 rw [List.take_of_length_le h]
structure OpW (x : OpM) : Prop where
 a : 0 ≤ x.a ∧ x.a ≤ 18446744073709551615
 b : 0 ≤ x.b ∧ x.b ≤ 18446744073709551615
 key : Z8 x.key
 val : Z8 x.val
 lo : Z8 x.lo
 hi : Z8 x.hi
 ents : Ua x.ents
 chs : Qm x.chs
structure OpL (x : OpM) : Prop where
 n : 0 ≤ x.n ∧ x.n ≤ 2147483647
 name : x.name.size ≤ 32
 bytes : x.bytes.length ≤ 65536
 ents : x.ents.length ≤ 1000
 chs : x.chs.length ≤ 1000
structure ZM where
 code : Int
 a : Int
 b : Int
 key : Int
 val : Int
 lo : Int
 hi : Int
 n : Int
 flag : Bool
 name : ByteArray
 lb : Nat
 le : Nat
 lc : Nat
def zOf (x : OpM) : ZM := { code := x.code, a := x.a, b := x.b, key := x.key, val := x.val, lo := x.lo, hi := x.hi, n := x.n, flag := x.flag, name := x.name, lb := (Za x.bytes).length, le := (Zo x.ents).length, lc := (Zn x.chs).length }
def ZL (f : Int) (y : ZM) : ZM :=
 if f = 65 then { y with a := 0 }
 else if f = 66 then { y with b := 0 }
 else if f = 75 then { y with key := 0 }
 else if f = 86 then { y with val := 0 }
 else if f = 76 then { y with lo := 0 }
 else if f = 72 then { y with hi := 0 }
 else if f = 78 then { y with n := 0 }
 else if f = 70 then { y with flag := false }
 else if f = 83 then { y with name := ⟨#[]⟩ }
 else if f = 89 then { y with lb := 0 }
 else if f = 69 then { y with le := 0 }
 else if f = 67 then { y with lc := 0 }
 else y
theorem Zd8 {y : ZM} : ZL 65 y = { y with a := 0 } := rfl
theorem Zeg {y : ZM} : ZL 66 y = { y with b := 0 } := rfl
theorem Zc1 {y : ZM} : ZL 75 y = { y with key := 0 } := rfl
theorem Zef {y : ZM} : ZL 86 y = { y with val := 0 } := rfl
theorem Zej {y : ZM} : ZL 76 y = { y with lo := 0 } := rfl
theorem Zde {y : ZM} : ZL 72 y = { y with hi := 0 } := rfl
theorem Zc7 {y : ZM} : ZL 78 y = { y with n := 0 } := rfl
theorem Zd3 {y : ZM} : ZL 70 y = { y with flag := false } := rfl
theorem Zeh {y : ZM} : ZL 83 y = { y with name := ⟨#[]⟩ } := rfl
theorem Zc3 {y : ZM} : ZL 89 y = { y with lb := 0 } := rfl
theorem Zec {y : ZM} : ZL 69 y = { y with le := 0 } := rfl
theorem Zdl {y : ZM} : ZL 67 y = { y with lc := 0 } := rfl
theorem Z4 {f : Int} {y : ZM} (h : ¬ Xg f) : ZL f y = y := by
 unfold Xg at h
 unfold ZL
 rw [if_neg (by omega)]
 rw [if_neg (by omega)]
 rw [if_neg (by omega)]
 rw [if_neg (by omega)]
 rw [if_neg (by omega)]
 rw [if_neg (by omega)]
 rw [if_neg (by omega)]
 rw [if_neg (by omega)]
 rw [if_neg (by omega)]
 rw [if_neg (by omega)]
 rw [if_neg (by omega)]
 rw [if_neg (by omega)]
def ZC : List Int → ZM → ZM
 | [], y => y
 | f :: l, y => ZC l (ZL f y)
theorem CK {l : List Int} {y : ZM} {k : Nat} (h : k < l.length) : ZC (l.drop k) y = ZC (l.drop (k + 1)) (ZL (l.getD k 0) y) := by rw [Dw h]; rfl
theorem D1 {l : List Int} {y : ZM} {k : Nat} (h : ¬ k < l.length) : ZC (l.drop k) y = y := by rw [List.drop_eq_nil_of_le (by omega)]; rfl
theorem V0 {f : Int} {y : ZM} : (ZL f y).a = if f = 65 then 0 else y.a := by
 by_cases hf : Xg f
 ·unfold Xg at hf
  rcases hf with rfl | rfl | rfl | rfl | rfl | rfl | rfl | rfl | rfl | rfl | rfl | rfl <;> rfl
 ·rw [Z4 hf, if_neg (by unfold Xg at hf; omega)]
theorem HZ : ∀ {l : List Int} {y : ZM}, (ZC l y).a = if 65 ∈ l then 0 else y.a
 | [], _ => rfl
 | g :: l, y => by
  rw [ZC, HZ, V0]
  by_cases h1 : (65 : Int) ∈ l
  ·rw [if_pos h1, if_pos (List.mem_cons_of_mem _ h1)]
  ·rw [if_neg h1]
   by_cases h2 : g = 65
   ·rw [if_pos h2, if_pos (by rw [h2]; exact List.mem_cons_self ..)]
   ·rw [if_neg h2, if_neg (by simp only [List.mem_cons, not_or]; exact ⟨fun h => h2 h.symm, h1⟩)]
theorem Zay {f : Int} {y : ZM} : (ZL f y).b = if f = 66 then 0 else y.b := by
 by_cases hf : Xg f
 ·unfold Xg at hf
  rcases hf with rfl | rfl | rfl | rfl | rfl | rfl | rfl | rfl | rfl | rfl | rfl | rfl <;> rfl
 ·rw [Z4 hf, if_neg (by unfold Xg at hf; omega)]
theorem Da : ∀ {l : List Int} {y : ZM}, (ZC l y).b = if 66 ∈ l then 0 else y.b
 | [], _ => rfl
 | g :: l, y => by
  rw [ZC, Da, Zay]
  by_cases h1 : (66 : Int) ∈ l
  ·rw [if_pos h1, if_pos (List.mem_cons_of_mem _ h1)]
  ·rw [if_neg h1]
   by_cases h2 : g = 66
   ·rw [if_pos h2, if_pos (by rw [h2]; exact List.mem_cons_self ..)]
   ·rw [if_neg h2, if_neg (by simp only [List.mem_cons, not_or]; exact ⟨fun h => h2 h.symm, h1⟩)]
theorem Zbc {f : Int} {y : ZM} : (ZL f y).key = if f = 75 then 0 else y.key := by
 by_cases hf : Xg f
 ·unfold Xg at hf
  rcases hf with rfl | rfl | rfl | rfl | rfl | rfl | rfl | rfl | rfl | rfl | rfl | rfl <;> rfl
 ·rw [Z4 hf, if_neg (by unfold Xg at hf; omega)]
theorem Dg : ∀ {l : List Int} {y : ZM}, (ZC l y).key = if 75 ∈ l then 0 else y.key
 | [], _ => rfl
 | g :: l, y => by
  rw [ZC, Dg, Zbc]
  by_cases h1 : (75 : Int) ∈ l
  ·rw [if_pos h1, if_pos (List.mem_cons_of_mem _ h1)]
  ·rw [if_neg h1]
   by_cases h2 : g = 75
   ·rw [if_pos h2, if_pos (by rw [h2]; exact List.mem_cons_self ..)]
   ·rw [if_neg h2, if_neg (by simp only [List.mem_cons, not_or]; exact ⟨fun h => h2 h.symm, h1⟩)]
theorem Zbr {f : Int} {y : ZM} : (ZL f y).val = if f = 86 then 0 else y.val := by
 by_cases hf : Xg f
 ·unfold Xg at hf
  rcases hf with rfl | rfl | rfl | rfl | rfl | rfl | rfl | rfl | rfl | rfl | rfl | rfl <;> rfl
 ·rw [Z4 hf, if_neg (by unfold Xg at hf; omega)]
theorem HS : ∀ {l : List Int} {y : ZM}, (ZC l y).val = if 86 ∈ l then 0 else y.val
 | [], _ => rfl
 | g :: l, y => by
  rw [ZC, HS, Zbr]
  by_cases h1 : (86 : Int) ∈ l
  ·rw [if_pos h1, if_pos (List.mem_cons_of_mem _ h1)]
  ·rw [if_neg h1]
   by_cases h2 : g = 86
   ·rw [if_pos h2, if_pos (by rw [h2]; exact List.mem_cons_self ..)]
   ·rw [if_neg h2, if_neg (by simp only [List.mem_cons, not_or]; exact ⟨fun h => h2 h.symm, h1⟩)]
theorem VY {f : Int} {y : ZM} : (ZL f y).lo = if f = 76 then 0 else y.lo := by
 by_cases hf : Xg f
 ·unfold Xg at hf
  rcases hf with rfl | rfl | rfl | rfl | rfl | rfl | rfl | rfl | rfl | rfl | rfl | rfl <;> rfl
 ·rw [Z4 hf, if_neg (by unfold Xg at hf; omega)]
theorem De : ∀ {l : List Int} {y : ZM}, (ZC l y).lo = if 76 ∈ l then 0 else y.lo
 | [], _ => rfl
 | g :: l, y => by
  rw [ZC, De, VY]
  by_cases h1 : (76 : Int) ∈ l
  ·rw [if_pos h1, if_pos (List.mem_cons_of_mem _ h1)]
  ·rw [if_neg h1]
   by_cases h2 : g = 76
   ·rw [if_pos h2, if_pos (by rw [h2]; exact List.mem_cons_self ..)]
   ·rw [if_neg h2, if_neg (by simp only [List.mem_cons, not_or]; exact ⟨fun h => h2 h.symm, h1⟩)]
theorem Zai {f : Int} {y : ZM} : (ZL f y).hi = if f = 72 then 0 else y.hi := by
 by_cases hf : Xg f
 ·unfold Xg at hf
  rcases hf with rfl | rfl | rfl | rfl | rfl | rfl | rfl | rfl | rfl | rfl | rfl | rfl <;> rfl
 ·rw [Z4 hf, if_neg (by unfold Xg at hf; omega)]
theorem Dm : ∀ {l : List Int} {y : ZM}, (ZC l y).hi = if 72 ∈ l then 0 else y.hi
 | [], _ => rfl
 | g :: l, y => by
  rw [ZC, Dm, Zai]
  by_cases h1 : (72 : Int) ∈ l
  ·rw [if_pos h1, if_pos (List.mem_cons_of_mem _ h1)]
  ·rw [if_neg h1]
   by_cases h2 : g = 72
   ·rw [if_pos h2, if_pos (by rw [h2]; exact List.mem_cons_self ..)]
   ·rw [if_neg h2, if_neg (by simp only [List.mem_cons, not_or]; exact ⟨fun h => h2 h.symm, h1⟩)]
theorem Zak {f : Int} {y : ZM} : (ZL f y).n = if f = 78 then 0 else y.n := by
 by_cases hf : Xg f
 ·unfold Xg at hf
  rcases hf with rfl | rfl | rfl | rfl | rfl | rfl | rfl | rfl | rfl | rfl | rfl | rfl <;> rfl
 ·rw [Z4 hf, if_neg (by unfold Xg at hf; omega)]
theorem HK : ∀ {l : List Int} {y : ZM}, (ZC l y).n = if 78 ∈ l then 0 else y.n
 | [], _ => rfl
 | g :: l, y => by
  rw [ZC, HK, Zak]
  by_cases h1 : (78 : Int) ∈ l
  ·rw [if_pos h1, if_pos (List.mem_cons_of_mem _ h1)]
  ·rw [if_neg h1]
   by_cases h2 : g = 78
   ·rw [if_pos h2, if_pos (by rw [h2]; exact List.mem_cons_self ..)]
   ·rw [if_neg h2, if_neg (by simp only [List.mem_cons, not_or]; exact ⟨fun h => h2 h.symm, h1⟩)]
theorem Zbp {f : Int} {y : ZM} : (ZL f y).flag = if f = 70 then false else y.flag := by
 by_cases hf : Xg f
 ·unfold Xg at hf
  rcases hf with rfl | rfl | rfl | rfl | rfl | rfl | rfl | rfl | rfl | rfl | rfl | rfl <;> rfl
 ·rw [Z4 hf, if_neg (by unfold Xg at hf; omega)]
theorem HW : ∀ {l : List Int} {y : ZM}, (ZC l y).flag = if 70 ∈ l then false else y.flag
 | [], _ => rfl
 | g :: l, y => by
  rw [ZC, HW, Zbp]
  by_cases h1 : (70 : Int) ∈ l
  ·rw [if_pos h1, if_pos (List.mem_cons_of_mem _ h1)]
  ·rw [if_neg h1]
   by_cases h2 : g = 70
   ·rw [if_pos h2, if_pos (by rw [h2]; exact List.mem_cons_self ..)]
   ·rw [if_neg h2, if_neg (by simp only [List.mem_cons, not_or]; exact ⟨fun h => h2 h.symm, h1⟩)]
theorem V9 {f : Int} {y : ZM} : (ZL f y).name = if f = 83 then ⟨#[]⟩ else y.name := by
 by_cases hf : Xg f
 ·unfold Xg at hf
  rcases hf with rfl | rfl | rfl | rfl | rfl | rfl | rfl | rfl | rfl | rfl | rfl | rfl <;> rfl
 ·rw [Z4 hf, if_neg (by unfold Xg at hf; omega)]
theorem Dd : ∀ {l : List Int} {y : ZM}, (ZC l y).name = if 83 ∈ l then ⟨#[]⟩ else y.name
 | [], _ => rfl
 | g :: l, y => by
  rw [ZC, Dd, V9]
  by_cases h1 : (83 : Int) ∈ l
  ·rw [if_pos h1, if_pos (List.mem_cons_of_mem _ h1)]
  ·rw [if_neg h1]
   by_cases h2 : g = 83
   ·rw [if_pos h2, if_pos (by rw [h2]; exact List.mem_cons_self ..)]
   ·rw [if_neg h2, if_neg (by simp only [List.mem_cons, not_or]; exact ⟨fun h => h2 h.symm, h1⟩)]
theorem Zb0 {f : Int} {y : ZM} : (ZL f y).lb = if f = 89 then 0 else y.lb := by
 by_cases hf : Xg f
 ·unfold Xg at hf
  rcases hf with rfl | rfl | rfl | rfl | rfl | rfl | rfl | rfl | rfl | rfl | rfl | rfl <;> rfl
 ·rw [Z4 hf, if_neg (by unfold Xg at hf; omega)]
theorem H0 : ∀ {l : List Int} {y : ZM}, (ZC l y).lb = if 89 ∈ l then 0 else y.lb
 | [], _ => rfl
 | g :: l, y => by
  rw [ZC, H0, Zb0]
  by_cases h1 : (89 : Int) ∈ l
  ·rw [if_pos h1, if_pos (List.mem_cons_of_mem _ h1)]
  ·rw [if_neg h1]
   by_cases h2 : g = 89
   ·rw [if_pos h2, if_pos (by rw [h2]; exact List.mem_cons_self ..)]
   ·rw [if_neg h2, if_neg (by simp only [List.mem_cons, not_or]; exact ⟨fun h => h2 h.symm, h1⟩)]
theorem Zaz {f : Int} {y : ZM} : (ZL f y).le = if f = 69 then 0 else y.le := by
 by_cases hf : Xg f
 ·unfold Xg at hf
  rcases hf with rfl | rfl | rfl | rfl | rfl | rfl | rfl | rfl | rfl | rfl | rfl | rfl <;> rfl
 ·rw [Z4 hf, if_neg (by unfold Xg at hf; omega)]
theorem H8 : ∀ {l : List Int} {y : ZM}, (ZC l y).le = if 69 ∈ l then 0 else y.le
 | [], _ => rfl
 | g :: l, y => by
  rw [ZC, H8, Zaz]
  by_cases h1 : (69 : Int) ∈ l
  ·rw [if_pos h1, if_pos (List.mem_cons_of_mem _ h1)]
  ·rw [if_neg h1]
   by_cases h2 : g = 69
   ·rw [if_pos h2, if_pos (by rw [h2]; exact List.mem_cons_self ..)]
   ·rw [if_neg h2, if_neg (by simp only [List.mem_cons, not_or]; exact ⟨fun h => h2 h.symm, h1⟩)]
theorem Za0 {f : Int} {y : ZM} : (ZL f y).lc = if f = 67 then 0 else y.lc := by
 by_cases hf : Xg f
 ·unfold Xg at hf
  rcases hf with rfl | rfl | rfl | rfl | rfl | rfl | rfl | rfl | rfl | rfl | rfl | rfl <;> rfl
 ·rw [Z4 hf, if_neg (by unfold Xg at hf; omega)]
theorem Dp : ∀ {l : List Int} {y : ZM}, (ZC l y).lc = if 67 ∈ l then 0 else y.lc
 | [], _ => rfl
 | g :: l, y => by
  rw [ZC, Dp, Za0]
  by_cases h1 : (67 : Int) ∈ l
  ·rw [if_pos h1, if_pos (List.mem_cons_of_mem _ h1)]
  ·rw [if_neg h1]
   by_cases h2 : g = 67
   ·rw [if_pos h2, if_pos (by rw [h2]; exact List.mem_cons_self ..)]
   ·rw [if_neg h2, if_neg (by simp only [List.mem_cons, not_or]; exact ⟨fun h => h2 h.symm, h1⟩)]
def VH (x : OpM) : Prop := (65 ∉ fs x.code → x.a = 0) ∧ (66 ∉ fs x.code → x.b = 0) ∧ (75 ∉ fs x.code → x.key = 0) ∧ (86 ∉ fs x.code → x.val = 0) ∧ (76 ∉ fs x.code → x.lo = 0) ∧ (72 ∉ fs x.code → x.hi = 0) ∧ (78 ∉ fs x.code → x.n = 0) ∧ (70 ∉ fs x.code → x.flag = false) ∧ (83 ∉ fs x.code → x.name = ⟨#[]⟩) ∧ (89 ∉ fs x.code → x.bytes.length = 0) ∧ (69 ∉ fs x.code → x.ents.length = 0) ∧ (67 ∉ fs x.code → x.chs.length = 0)
theorem ite_z {α : Type} {p : Prop} [Decidable p] {z v : α} : ((if p then z else v) = z) = (¬ p → v = z) := by
 by_cases h : p <;> simp [h]
theorem nat0 {n : Nat} : ((n : Int) = 0) = (n = 0) := by
 apply propext; omega
theorem Cw {x : OpM} {y : ZM} (h : y = ZC (fs x.code) (zOf x)) : (y.a = 0 ∧ y.b = 0 ∧ y.key = 0 ∧ y.val = 0 ∧ y.lo = 0 ∧ y.hi = 0 ∧ y.n = 0 ∧ y.flag = false ∧ y.name = ⟨#[]⟩ ∧ y.lb = 0 ∧ y.le = 0 ∧ y.lc = 0) ↔ VH x := by
 subst h
 rw [HZ, Da, Dg, HS, De, Dm, HK, HW, Dd, H0, H8, Dp]
 simp only [ite_z, zOf, Zf, Z_, Z9]
 exact Iff.rfl
def okOp (x : OpM) : Prop := Zdo x.code = true ∧ OpL x ∧ (∀ c ∈ x.chs, 0 ≤ c.1 ∧ c.1 ≤ 255) ∧ VH x
structure AnM where
 err : Int
 handle : Int
 value : Int
 found : Bool
 n : Int
 ekey : Int
 eval : Int
 count : Int
 sum : Int
 mn : Int
 mx : Int
 ents : List (Int × Int)
 chs : List (Int × Int × Int × Int)
 keys : List Int
 bytes : List Int
structure AnW (x : AnM) : Prop where
 err : Z8 x.err
 handle : 0 ≤ x.handle ∧ x.handle ≤ 18446744073709551615
 value : Z8 x.value
 n : Z8 x.n
 ekey : Z8 x.ekey
 eval : Z8 x.eval
 count : Z8 x.count
 sum : Z8 x.sum
 mn : Z8 x.mn
 mx : Z8 x.mx
 ents : Ua x.ents
 chs : Qm x.chs
 keys : DF x.keys
 le : x.ents.length ≤ 100
 lc : x.chs.length ≤ 100
 lk : x.keys.length ≤ 100
 lb : x.bytes.length ≤ 1000
def VA : AnM := { err := 0, handle := 0, value := 0, found := false, n := 0, ekey := 0, eval := 0, count := 0, sum := 0, mn := 0, mx := 0, ents := [], chs := [], keys := [], bytes := [] }
def VT (r1 : Int × Nat × Int) (r2 : Int × Nat × Int) (r3 : Int × Nat × Int) (r4 : Bool × Nat × Int) (r5 : Int × Nat × Int) (r6 : Int × Nat × Int) (r7 : Int × Nat × Int) (r8 : Int × Nat × Int) (r9 : Int × Nat × Int) (r10 : Int × Nat × Int) (r11 : Int × Nat × Int) (r13 : List (Int × Int) × Nat × Int) (r15 : List (Int × Int × Int × Int) × Nat × Int) (r17 : List Int × Nat × Int) (r19 : List Int × Nat × Int) : AnM × Nat × Int := ({ err := r1.1, handle := r2.1, value := r3.1, found := r4.1, n := r5.1, ekey := r6.1, eval := r7.1, count := r8.1, sum := r9.1, mn := r10.1, mx := r11.1, ents := r13.1, chs := r15.1, keys := r17.1, bytes := r19.1 }, r19.2)
def DE (bs : List Int) (r1 : Int × Nat × Int) (r2 : Int × Nat × Int) (r3 : Int × Nat × Int) (r4 : Bool × Nat × Int) (r5 : Int × Nat × Int) (r6 : Int × Nat × Int) (r7 : Int × Nat × Int) (r8 : Int × Nat × Int) (r9 : Int × Nat × Int) (r10 : Int × Nat × Int) (r11 : Int × Nat × Int) (r13 : List (Int × Int) × Nat × Int) (r15 : List (Int × Int × Int × Int) × Nat × Int) (r17 : List Int × Nat × Int) (r18 : Int × Nat × Int) : AnM × Nat × Int := VT r1 r2 r3 r4 r5 r6 r7 r8 r9 r10 r11 r13 r15 r17 (Zs bs r18.1.toNat r18.2.1 r18.2.2)
def DC (bs : List Int) (r1 : Int × Nat × Int) (r2 : Int × Nat × Int) (r3 : Int × Nat × Int) (r4 : Bool × Nat × Int) (r5 : Int × Nat × Int) (r6 : Int × Nat × Int) (r7 : Int × Nat × Int) (r8 : Int × Nat × Int) (r9 : Int × Nat × Int) (r10 : Int × Nat × Int) (r11 : Int × Nat × Int) (r13 : List (Int × Int) × Nat × Int) (r15 : List (Int × Int × Int × Int) × Nat × Int) (r17 : List Int × Nat × Int) : AnM × Nat × Int := DE bs r1 r2 r3 r4 r5 r6 r7 r8 r9 r10 r11 r13 r15 r17 (Yy bs r17.2.1 r17.2.2)
def Hf (bs : List Int) (r1 : Int × Nat × Int) (r2 : Int × Nat × Int) (r3 : Int × Nat × Int) (r4 : Bool × Nat × Int) (r5 : Int × Nat × Int) (r6 : Int × Nat × Int) (r7 : Int × Nat × Int) (r8 : Int × Nat × Int) (r9 : Int × Nat × Int) (r10 : Int × Nat × Int) (r11 : Int × Nat × Int) (r13 : List (Int × Int) × Nat × Int) (r15 : List (Int × Int × Int × Int) × Nat × Int) (r16 : Int × Nat × Int) : AnM × Nat × Int := DC bs r1 r2 r3 r4 r5 r6 r7 r8 r9 r10 r11 r13 r15 (Yq bs r16.1.toNat r16.2.1 r16.2.2)
def Hm (bs : List Int) (r1 : Int × Nat × Int) (r2 : Int × Nat × Int) (r3 : Int × Nat × Int) (r4 : Bool × Nat × Int) (r5 : Int × Nat × Int) (r6 : Int × Nat × Int) (r7 : Int × Nat × Int) (r8 : Int × Nat × Int) (r9 : Int × Nat × Int) (r10 : Int × Nat × Int) (r11 : Int × Nat × Int) (r13 : List (Int × Int) × Nat × Int) (r15 : List (Int × Int × Int × Int) × Nat × Int) : AnM × Nat × Int := Hf bs r1 r2 r3 r4 r5 r6 r7 r8 r9 r10 r11 r13 r15 (Yy bs r15.2.1 r15.2.2)
def Uq (bs : List Int) (r1 : Int × Nat × Int) (r2 : Int × Nat × Int) (r3 : Int × Nat × Int) (r4 : Bool × Nat × Int) (r5 : Int × Nat × Int) (r6 : Int × Nat × Int) (r7 : Int × Nat × Int) (r8 : Int × Nat × Int) (r9 : Int × Nat × Int) (r10 : Int × Nat × Int) (r11 : Int × Nat × Int) (r13 : List (Int × Int) × Nat × Int) (r14 : Int × Nat × Int) : AnM × Nat × Int := Hm bs r1 r2 r3 r4 r5 r6 r7 r8 r9 r10 r11 r13 (Z7 bs r14.1.toNat r14.2.1 r14.2.2)
def UP (bs : List Int) (r1 : Int × Nat × Int) (r2 : Int × Nat × Int) (r3 : Int × Nat × Int) (r4 : Bool × Nat × Int) (r5 : Int × Nat × Int) (r6 : Int × Nat × Int) (r7 : Int × Nat × Int) (r8 : Int × Nat × Int) (r9 : Int × Nat × Int) (r10 : Int × Nat × Int) (r11 : Int × Nat × Int) (r13 : List (Int × Int) × Nat × Int) : AnM × Nat × Int := Uq bs r1 r2 r3 r4 r5 r6 r7 r8 r9 r10 r11 r13 (Yy bs r13.2.1 r13.2.2)
def Q2 (bs : List Int) (r1 : Int × Nat × Int) (r2 : Int × Nat × Int) (r3 : Int × Nat × Int) (r4 : Bool × Nat × Int) (r5 : Int × Nat × Int) (r6 : Int × Nat × Int) (r7 : Int × Nat × Int) (r8 : Int × Nat × Int) (r9 : Int × Nat × Int) (r10 : Int × Nat × Int) (r11 : Int × Nat × Int) (r12 : Int × Nat × Int) : AnM × Nat × Int := UP bs r1 r2 r3 r4 r5 r6 r7 r8 r9 r10 r11 (ZJ bs r12.1.toNat r12.2.1 r12.2.2)
def Q8 (bs : List Int) (r1 : Int × Nat × Int) (r2 : Int × Nat × Int) (r3 : Int × Nat × Int) (r4 : Bool × Nat × Int) (r5 : Int × Nat × Int) (r6 : Int × Nat × Int) (r7 : Int × Nat × Int) (r8 : Int × Nat × Int) (r9 : Int × Nat × Int) (r10 : Int × Nat × Int) (r11 : Int × Nat × Int) : AnM × Nat × Int := Q2 bs r1 r2 r3 r4 r5 r6 r7 r8 r9 r10 r11 (Yy bs r11.2.1 r11.2.2)
def Ql (bs : List Int) (r1 : Int × Nat × Int) (r2 : Int × Nat × Int) (r3 : Int × Nat × Int) (r4 : Bool × Nat × Int) (r5 : Int × Nat × Int) (r6 : Int × Nat × Int) (r7 : Int × Nat × Int) (r8 : Int × Nat × Int) (r9 : Int × Nat × Int) (r10 : Int × Nat × Int) : AnM × Nat × Int := Q8 bs r1 r2 r3 r4 r5 r6 r7 r8 r9 r10 (rZ bs r10.2.1 r10.2.2)
def CA (bs : List Int) (r1 : Int × Nat × Int) (r2 : Int × Nat × Int) (r3 : Int × Nat × Int) (r4 : Bool × Nat × Int) (r5 : Int × Nat × Int) (r6 : Int × Nat × Int) (r7 : Int × Nat × Int) (r8 : Int × Nat × Int) (r9 : Int × Nat × Int) : AnM × Nat × Int := Ql bs r1 r2 r3 r4 r5 r6 r7 r8 r9 (rZ bs r9.2.1 r9.2.2)
def Ce (bs : List Int) (r1 : Int × Nat × Int) (r2 : Int × Nat × Int) (r3 : Int × Nat × Int) (r4 : Bool × Nat × Int) (r5 : Int × Nat × Int) (r6 : Int × Nat × Int) (r7 : Int × Nat × Int) (r8 : Int × Nat × Int) : AnM × Nat × Int := CA bs r1 r2 r3 r4 r5 r6 r7 r8 (rZ bs r8.2.1 r8.2.2)
def D7 (bs : List Int) (r1 : Int × Nat × Int) (r2 : Int × Nat × Int) (r3 : Int × Nat × Int) (r4 : Bool × Nat × Int) (r5 : Int × Nat × Int) (r6 : Int × Nat × Int) (r7 : Int × Nat × Int) : AnM × Nat × Int := Ce bs r1 r2 r3 r4 r5 r6 r7 (rZ bs r7.2.1 r7.2.2)
def HO (bs : List Int) (r1 : Int × Nat × Int) (r2 : Int × Nat × Int) (r3 : Int × Nat × Int) (r4 : Bool × Nat × Int) (r5 : Int × Nat × Int) (r6 : Int × Nat × Int) : AnM × Nat × Int := D7 bs r1 r2 r3 r4 r5 r6 (rZ bs r6.2.1 r6.2.2)
def Hl (bs : List Int) (r1 : Int × Nat × Int) (r2 : Int × Nat × Int) (r3 : Int × Nat × Int) (r4 : Bool × Nat × Int) (r5 : Int × Nat × Int) : AnM × Nat × Int := HO bs r1 r2 r3 r4 r5 (rZ bs r5.2.1 r5.2.2)
def UZ (bs : List Int) (r1 : Int × Nat × Int) (r2 : Int × Nat × Int) (r3 : Int × Nat × Int) (r4 : Bool × Nat × Int) : AnM × Nat × Int := Hl bs r1 r2 r3 r4 (rZ bs r4.2.1 r4.2.2)
def Uj (bs : List Int) (r1 : Int × Nat × Int) (r2 : Int × Nat × Int) (r3 : Int × Nat × Int) : AnM × Nat × Int := UZ bs r1 r2 r3 (Xo bs r3.2.1 r3.2.2)
def Uh (bs : List Int) (r1 : Int × Nat × Int) (r2 : Int × Nat × Int) : AnM × Nat × Int := Uj bs r1 r2 (rZ bs r2.2.1 r2.2.2)
def QO (bs : List Int) (r1 : Int × Nat × Int) : AnM × Nat × Int := Uh bs r1 (rU bs r1.2.1 r1.2.2)
def Yr (bs : List Int) (p : Nat) : AnM × Nat × Int := QO bs (Xs bs 255 p 0)
def ZH (bs : List Int) (at_ : Int) : AnM × Int × Int :=
 if at_ < 0 ∨ (bs.length : Int) < at_ then (VA, 0, 1) else if (Yr bs at_.toNat).2.2 ≠ 0 then (VA, 0, (Yr bs at_.toNat).2.2) else ((Yr bs at_.toNat).1, ((Yr bs at_.toNat).2.1 : Int), 0)
def YJ (x : AnM) : List Int := eU (x.err % 18446744073709551616) ++ eU x.handle ++ eZ x.value ++ eF x.found ++ eZ x.n ++ eZ x.ekey ++ eZ x.eval ++ eZ x.count ++ eZ x.sum ++ eZ x.mn ++ eZ x.mx ++ YF x.ents ++ XO x.chs ++ (eU x.keys.length ++ x.keys.flatMap eZ) ++ Yp x.bytes
end Go.V
namespace Go.Proofs.YtlifpobidhfbfaaGreatDoor
open Go Go.V Go.RowKit
variable {g w : World} {L : List HP}
theorem Ze0 (n : Int) (hn : -9223372036854775808 ≤ n ∧ n ≤ 9223372036854775807) (Z : St g (L) w) :
  Sp Tryz.prog 63 [.int .i64 n] w (fun v w' => v = .int .u64 (zz n) ∧ St g (L) w') := by
 refine Sp.enter Tryz.func63 rfl (by kernel_rfl) (by kernel_rfl) ?_
 refine Ze7 <| WC.region <| Ze6 1 rfl <| Ze8 <| Ze7 <| WC.region <| Ze6 2 rfl <| Ze6 1 rfl <| Ze6 2 rfl <| Ze6 1 rfl <| Ze6 1 rfl <| Zfm 9 (.int .u64 (zz n)) (congrArg (Value.int .u64) (by exact Za6 hn)) ?_
 refine Ze6 1 rfl <| Ze8 <| Zfa ?_
 refine ⟨[.int .u64 (zz n)], rfl, ?_⟩
 exact ⟨rfl, Z⟩
theorem C8 (u : Int) (hu : 0 ≤ u ∧ u ≤ 18446744073709551615) (Z : St g (L) w) :
  Sp Tryz.prog 67 [.int .u64 u] w (fun v w' => v = .int .i64 (uz u) ∧ St g (L) w') := by
 refine Sp.enter Tryz.func67 rfl (by kernel_rfl) (by kernel_rfl) ?_
 refine Ze7 <| WC.region <| Ze6 1 rfl <| Ze8 <| Ze7 <| WC.region <| Ze6 2 rfl <| Zfm 4 (.int .u64 (u / 2)) (congrArg (Value.int .u64) (by rfl)) ?_
 refine Ze6 1 rfl <| Zfi 5 rfl (ZF (by omega)) ?_
 refine Ze6 2 rfl <| Zfm 7 (.int .u64 (u % 2)) (congrArg (Value.int .u64) (by exact and1 hu)) ?_
 refine Ze6 1 rfl <| Zfi 8 rfl (ZF (by omega)) ?_
 refine Ze6 1 rfl <| Zfi 9 rfl (ZF (by omega)) ?_
 refine Ze6 1 rfl <| Zfm 10 (.int .i64 (uz u)) (congrArg (Value.int .i64) (by exact VX hu)) ?_
 refine Ze6 1 rfl <| Ze8 <| Zfa ?_
 refine ⟨[.int .i64 (uz u)], rfl, ?_⟩
 exact ⟨rfl, Z⟩
theorem Qs (u : Nat) (hu : (u : Int) ≤ 18446744073709551615) (Z : St g (L) w) :
  Sp Tryz.prog 62 [.slice none 0 0, .int .u64 (u : Int)] w (fun v w' => ∃ (a : Option Addr) (c : Nat), v = .slice a (Za (Zu u)).length c ∧ St g (Ze 5 1 (Za (Zu u)) a c :: L) w') := by
 refine Sp.enter Tryz.func62 rfl (by kernel_rfl) (by kernel_rfl) ?_
 refine Ze7 <| WC.region <| Ze6 1 rfl <| Ze8 <| Ze7 <| WC.region ?_
 have hl := Yi 10 u (by omega) (by omega)
 refine Ze6 3 rfl <| Zfm 8 (.int .i64 10) (congrArg (Value.int .i64) (by decide)) ?_
 refine Zga rfl rfl (v := 0) (v' := 10) (0) (10) el_33 Z rfl (by omega) rfl (by omega) (by omega) (Rm.of (by omega) (by decide)) (fun b1 w Z => ?_)
 replace Z : St g (Ze 5 1 [] (some ⟨b1, 0, none⟩) 10 :: L) w := Z
 refine Ze6 1 rfl <| Zfz rfl rfl 0 ([]) el_33 Z rfl Src.nil (List.append_nil _) (Rm.of (by first | omega | (simp <;> omega)) (by decide)) rfl rfl (fun a1 c1 w Z => ?_)
 replace Z : St g (Ze 5 1 [] a1 c1 :: L) w := Z
 refine Ze6 1 rfl <| Ze8 <| Ze7 <| Zfj <| Zft [1, 4, 5] (fun kM vs w => ∃ (v : Nat) (xs : List Int) (a : Option Addr) (c : Nat), vs = [.int .u64 (v : Int), .slice none 0 0, .slice a (Za xs).length c] ∧ St g (Ze 5 1 (Za xs) a c :: L) w ∧ (Zu u = xs ++ Zu v) ∧ (v ≤ u) ∧ (v) = kM) (u) ⟨u, [], _, _, rfl, Z, (rfl), (Nat.le_refl _), rfl⟩ ?_
 clear Z; rintro _ _ w j ⟨v, xs, a, c, rfl, Z, hv, hle, rfl⟩
 refine Ze7 <| Ze7 <| WC.region <| Ze6 2 rfl <| Ze8 ?_
 as_aux_lemma =>
 refine Zfe rfl (fun cd1 => ?_) (fun cd1 => ?_)
 ·refine Zfc <| Zfj <| Ze7 <| WC.region ?_
  have hv2 : ¬ v < 128 := by omega
  have hl2 := congrArg List.length hv; rw [Yc hv2] at hl2; simp only [List.length_append, List.length_cons] at hl2
  refine Ze6 3 rfl <| Ze6 1 rfl <| Zfm 17 (.int .u8 ((v : Int) % 128 + 128)) (congrArg (Value.int .u8) (by exact or128 _)) ?_
  refine Zf3 rfl rfl (Za [(v : Int) % 128 + 128]) el_33 Z (by exact ⟨rfl, rfl⟩) (Yj _) rfl (Nat.le_of_ble_eq_true rfl) (fun b2 w Z => ?_)
  refine Zfz rfl rfl 1 (Za (xs ++ [(v : Int) % 128 + 128])) el_33 Z rfl (Z.srcO 0 rfl) (Z0 _ _).symm (Rm.of (by first | omega | (simp <;> omega)) (by decide)) rfl rfl (fun a2 c2 w Z => ?_)
  replace Z : St g (Ze 5 1 (Za [(v : Int) % 128 + 128]) (some ⟨b2, 0, none⟩) (Za [(v : Int) % 128 + 128]).length :: Ze 5 1 (Za (xs ++ [(v : Int) % 128 + 128])) a2 c2 :: L) w := Z
  refine Ze6 1 rfl <| Ze8 <| WC.region <| Ze6 2 rfl <| Zfm 21 (.int .u64 ((v : Int) / 128)) (congrArg (Value.int .u64) (by rfl)) ?_
  refine Ze6 1 rfl <| Ze8 ?_
  exact ⟨_, by omega, v / 128, xs ++ [(v : Int) % 128 + 128], _, _, rfl, (Z.sel 1 [] rfl), (by rw [hv, Yc hv2]; simp), (by omega), rfl⟩
 ·refine Zfv <| Ze7 <| WC.region ?_
  have hv2 : v < 128 := by omega
  have hl2 := congrArg List.length hv; rw [Yb hv2] at hl2; simp only [List.length_append, List.length_cons] at hl2
  refine Ze6 3 rfl <| Zfi 24 rfl (VW (by omega) (by omega)) ?_
  refine Zf3 rfl rfl (Za [(v : Int)]) el_33 Z (by exact ⟨rfl, rfl⟩) (Yj _) rfl (Nat.le_of_ble_eq_true rfl) (fun b2 w Z => ?_)
  refine Zfz rfl rfl 1 (Za (xs ++ [(v : Int)])) el_33 Z rfl (Z.srcO 0 rfl) (Z0 _ _).symm (Rm.of (by first | omega | (simp <;> omega)) (by decide)) rfl rfl (fun a2 c2 w Z => ?_)
  replace Z : St g (Ze 5 1 (Za [(v : Int)]) (some ⟨b2, 0, none⟩) (Za [(v : Int)]).length :: Ze 5 1 (Za (xs ++ [(v : Int)])) a2 c2 :: L) w := Z
  refine Ze6 1 rfl <| Ze8 <| Zfa ?_
  refine ⟨[.slice a2 (List.length (Za (xs ++ [(v : Int)]))) c2], rfl, ?_⟩
  replace Z := (Z.sel 1 [] rfl)
  rw [Yb hv2] at hv; rw [← hv] at Z ⊢; exact ⟨_, _, rfl, Z⟩
theorem V5 (bs : List Int) (a : Option Addr) (c : Nat) (p : Nat) (hp : p ≤ bs.length) (hl : bs.length ≤ 1000000000) (hb : B8 bs) (Z : St g (Sh 5 1 (Za bs) a c :: L) w) :
  Sp Tryz.prog 66 [.slice a (Za bs).length c, .int .i64 (p : Int)] w (fun v w' => v = .tuple #[.int .u64 (uv (bs.drop p)).1, .int .i64 (if (uv (bs.drop p)).2.2 = 0 then (p : Int) + (uv (bs.drop p)).2.1 else 0), .int .i64 (uv (bs.drop p)).2.2] ∧ St g (Sh 5 1 (Za bs) a c :: L) w') := by
 refine Sp.enter Tryz.func66 rfl (by kernel_rfl) (by kernel_rfl) ?_
 refine Ze7 <| WC.region <| Ze6 3 rfl <| Ze8 <| Ze7 <| Ze7 <| WC.region ?_
 have hl1 := Zf bs
 refine Ze6 2 rfl <| Zgd 6 rfl (fun j => ?_)
 refine Zf4 17 rfl (Uw (dd _) (dd _)) <| Ze8 <| Zfe rfl (fun cd1 => ?_) (fun cd1 => ?_)
 ·refine Ze7 <| WC.region <| Ze6 3 rfl <| Ze8 <| Zfa ?_
  refine ⟨[.int .u64 0, .int .i64 0, .int .i64 1], ⟨rfl, rfl, rfl⟩, ?_⟩
  exfalso; omega
 ·refine Zfc <| Ze7 <| WC.region <| Ze6 1 rfl <| Ze8 <| Ze7 <| Ze7 <| WC.region ?_
  have hl2 := Zf (bs.drop p); rw [List.length_drop] at hl2
  refine Ze6 2 rfl <| Zg0 rfl rfl (v := (p : Int)) 0 (p) (Za (bs.drop p)) el_33 Z rfl rfl rfl (by omega) (by omega) (Uo _ _) (fun a1 Z => ?_)
  replace Z := Z.n2 L (a0 := Sh 5 1 (Za (bs.drop p)) a1 (c - p)) rfl
  refine Ze6 2 rfl <| Ze8 ?_
  as_aux_lemma =>
  refine Zfj <| Zft [1, 7, 20, 21, 22] (fun kM vs w => ∃ (k : Nat) (u : Int), vs = [.int .i64 (p : Int), .int .u64 u, .slice a1 (Za (bs.drop p)).length (c - p), .int .i64 (List.length (Za (bs.drop p)) : Int), .int .i64 (k : Int)] ∧ St g (Sh 5 1 (Za (bs.drop p)) a1 (c - p) :: Sh 5 1 (Za bs) a c :: L) w ∧ (k ≤ bs.length - p) ∧ (UvB k u) ∧ (uv (bs.drop p) = YI k u (bs.drop (p + k))) ∧ (bs.length - p - k) = kM) ((List.length bs) - p - 0) ⟨0, 0, rfl, Z, (by omega), (UvB.start), (rfl), rfl⟩ ?_
  clear Z; rintro _ _ w j ⟨k, u, rfl, Z, hk, hu, he, rfl⟩
  refine Ze7 <| WC.region ?_
  have hl2 := Zf (bs.drop p); rw [List.length_drop] at hl2
  refine Ze6 1 rfl <| Ze8 <| Ze7 <| Zfe rfl (fun cd2 => ?_) (fun cd2 => ?_)
  ·refine Zfc <| Ze7 <| Zfj <| Ze7 <| WC.region <| Ze6 1 rfl ?_
   obtain ⟨x, hx⟩ : ∃ x, (bs.drop p)[k]? = some x := ⟨_, List.getElem?_eq_getElem (by rw [List.length_drop]; omega)⟩
   refine Zfw rfl rfl (i := (k : Int)) (k) el_33 rfl rfl (by omega) (Zt (ZA hx)) (Z.rdS 0 rfl (ZA hx)).1 ?_
   refine Zfd 3 [.int .u8 x] rfl (by exact (Z.rdS 0 rfl (ZA hx)).2 0 _ rfl) ?_
   refine Ze8 <| Ze7 <| Ze7 <| WC.region ?_
   have hx8 := hb x (List.mem_of_mem_drop (List.mem_of_getElem? hx)); have hk9 := hu.1
   have hdr : bs.drop (p + k) = x :: bs.drop (p + (k + 1)) := by rw [← List.drop_drop, List.drop_eq_getElem_cons (by rw [List.length_drop]; omega), List.drop_drop]; congr 1; exact (List.getElem?_eq_some_iff.1 hx).2
   rw [hdr] at he
   refine Ze6 2 rfl <| Zgd 12 rfl (fun j => ?_)
   refine Zf4 40 rfl (Uw (Ya (dd _) (dd _)) (Ya (dd _) (dd _))) <| Ze8 ?_
   as_aux_lemma =>
   refine Zfe rfl (fun cd3 => ?_) (fun cd3 => ?_)
   ·refine Ze7 <| WC.region <| Ze6 3 rfl <| Ze8 <| Zfa ?_
    refine ⟨[.int .u64 0, .int .i64 0, .int .i64 13], ⟨rfl, rfl, rfl⟩, ?_⟩
    replace Z := (Z.sel 1 [] rfl)
    have q4 : (k = 9 ∧ 1 < x) ∨ (0 < k ∧ x = 0) := by omega
    rw [X5 q4] at he; rw [he]; exact ⟨rfl, Z⟩
   ·refine Zfc <| Ze7 <| WC.region ?_
    have q4 : ¬ ((k = 9 ∧ 1 < x) ∨ (0 < k ∧ x = 0)) := by omega
    refine Ze6 3 rfl <| Zfm 43 (.int .u8 (x % 128)) (congrArg (Value.int .u8) (by exact Zcy hx8.1 hx8.2)) ?_
    refine Ze6 1 rfl <| Zfi 44 rfl (Ye (by omega)) ?_
    refine Ze6 2 rfl <| Zfi 46 rfl (Ye (by omega)) ?_
    refine Ze6 1 rfl <| Zfi 47 rfl (Ye (by omega)) ?_
    refine Zg4 rfl rfl (b := 7 * (k : Int)) (7 * k) rfl rfl (by omega) ?_
    refine Ze6 1 rfl <| Zfm 49 (.int .u64 (u + x % 128 * 128 ^ k)) (congrArg (Value.int .u64) (by exact Zat hu q4 hx8.1 hx8.2)) ?_
    refine Ze6 1 rfl <| Ze8 <| Ze7 <| WC.region <| Ze6 2 rfl <| Ze8 <| Zfe rfl (fun cd4 => ?_) (fun cd4 => ?_)
    ·refine Ze7 <| WC.region <| Ze6 4 rfl <| Zfi 55 rfl (ZF (by omega)) ?_
     refine Ze6 1 rfl <| Zfi 56 rfl (ZF (by omega)) ?_
     refine Ze6 3 rfl <| Ze8 ?_
     as_aux_lemma =>
     refine Zfa ?_
     refine ⟨[.int .u64 (u + x % 128 * 128 ^ k), .int .i64 (((p : Int) + (k : Int)) + 1), .int .i64 0], ⟨rfl, rfl, rfl⟩, ?_⟩
     replace Z := (Z.sel 1 [] rfl)
     rw [YZ q4 (by omega)] at he; rw [he]; refine ⟨?_, Z⟩
     rw [show x % 128 = x by omega]; simp only [if_true]; congr 3
    ·refine Zfc <| WC.region <| Ze6 1 rfl <| Zfi 57 rfl (ZF (by omega)) ?_
     refine Ze6 1 rfl <| Ze8 ?_
     exact ⟨_, by omega, k + 1, u + x % 128 * 128 ^ k, rfl, Z, (by omega), (by rw [show x % 128 = x - 128 by omega]; exact hu.next q4 (by omega) hx8.2), (by rw [he, Xx q4 (by omega), show x % 128 = x - 128 by omega]), rfl⟩
  ·refine Zfv <| Ze7 <| WC.region <| Ze6 3 rfl <| Ze8 <| Zfa ?_
   refine ⟨[.int .u64 0, .int .i64 0, .int .i64 12], ⟨rfl, rfl, rfl⟩, ?_⟩
   replace Z := (Z.sel 1 [] rfl)
   have e0 : bs.drop (p + k) = [] := List.drop_eq_nil_of_le (by omega)
   rw [e0, C4] at he; rw [he]; exact ⟨rfl, Z⟩
end Go.Proofs.YtlifpobidhfbfaaGreatDoor
namespace Go.Proofs.YtlifpobidhfbfaaGreatDoor
open Go Go.V
variable {g w : World} {L : List HP}
theorem XL (q : Nat) (xs : List Int) (a : Option Addr) (c : Nat) (x : Int) (hx : xs.length ≤ 1000000) (Z : St g (Zd q #[.slice a (Za xs).length c] 70 :: Ze 5 1 (Za xs) a c :: L) w) :
  Sp Tryz.prog 64 [.pointer (some ⟨q, 0, none⟩), .int .u8 x] w (fun v w' => ∃ (a2 : Option Addr) (c2 : Nat), v = .tuple #[] ∧ St g (Zd q #[.slice a2 (Za (xs ++ [x])).length c2] 70 :: Ze 5 1 (Za (xs ++ [x])) a2 c2 :: L) w') := by
 refine Sp.enter Tryz.func64 rfl (by kernel_rfl) (by kernel_rfl) ?_
 refine WC.region <| Zfd 6 [.slice a (Za xs).length c] rfl (by exact Z.ld 0 rfl rfl) ?_
 refine Zf3 rfl rfl (Za [x]) el_33 Z (by exact ⟨rfl, rfl⟩) (Yj _) rfl (Nat.le_of_ble_eq_true rfl) (fun b1 w Z => ?_)
 refine Zfz rfl rfl 2 (Za (xs ++ [x])) el_33 Z rfl (Z.srcO 0 rfl) (Z0 _ _).symm (Rm.of (by first | omega | (simp <;> omega)) (by decide)) rfl rfl (fun a1 c1 w Z => ?_)
 replace Z := Z.n3 L (a0 := Ze 5 1 (Za [x]) (some ⟨b1, 0, none⟩) (Za [x]).length) (a2 := Ze 5 1 (Za (xs ++ [x])) a1 c1) rfl
 refine Ze6 2 rfl <| Zfn rfl rfl rfl 1 Z rfl rfl rfl rfl rfl rfl (fun w Z => ?_)
 replace Z := Z.n3 L (a1 := Zd q #[.slice a1 (Za (xs ++ [x])).length c1] 70) rfl
 refine Ze8 ?_
 refine ⟨[], trivial, ?_⟩
 replace Z := (Z.sel 1 [] rfl)
 exact ⟨_, _, rfl, Z⟩
theorem ZS (q : Nat) (xs : List Int) (a : Option Addr) (c : Nat) (u : Int) (hx : xs.length ≤ 1000000) (hu : 0 ≤ u ∧ u ≤ 18446744073709551615) (Z : St g (Zd q #[.slice a (Za xs).length c] 70 :: Ze 5 1 (Za xs) a c :: L) w) :
  Sp Tryz.prog 27 [.pointer (some ⟨q, 0, none⟩), .int .u64 u] w (fun v w' => ∃ (a2 : Option Addr) (c2 : Nat), v = .tuple #[] ∧ St g (Zd q #[.slice a2 (Za (xs ++ eU u)).length c2] 70 :: Ze 5 1 (Za (xs ++ eU u)) a2 c2 :: L) w') := by
 refine Sp.enter Tryz.func27 rfl (by kernel_rfl) (by kernel_rfl) ?_
 refine Zfr [([0, 1, 5, 2, 3, 4], some (6, [0, 1, 2, 3, 4])), ([], some (7, [0])), ([8, 9], some (10, []))] (by kernel_rfl) (by kernel_rfl) ?_
 obtain ⟨k, rfl⟩ : ∃ k : Nat, u = k := ⟨u.toNat, by omega⟩; have hl := Yi 10 k (by omega) (by omega)
 refine Zfp 6 [.slice a (Za xs).length c] rfl (by exact Z.ld 0 rfl rfl) ?_
 refine WQ.dn Z (fun w Z => ?_)
 refine Zfb rfl rfl (Qs k (by omega) Z) rfl ?_
 clear Z; rintro _ w ⟨a1, c1, rfl, Z⟩
 replace Z := Z.n3 L rfl
 refine Ze8 ?_
 refine ⟨by exact ⟨Zff rfl rfl rfl rfl, Zff rfl rfl rfl rfl, Zff rfl rfl rfl rfl, Zff rfl rfl rfl rfl, Zfq rfl rfl rfl rfl (Z.ld 1 rfl rfl)⟩, ?_⟩
 refine WQ.dn Z (fun w Z => ?_)
 refine Zfz rfl rfl 2 (Za (xs ++ (Zu k))) el_33 Z rfl (Z.srcO 0 rfl) (Z0 _ _).symm (Rm.of (by first | omega | (simp <;> omega)) (by decide)) rfl rfl (fun a2 c2 w Z => ?_)
 replace Z := Z.n3 L (a2 := Ze 5 1 (Za (xs ++ (Zu k))) a2 c2) rfl
 refine Ze8 ?_
 refine ⟨by exact Zff rfl rfl rfl rfl, ?_⟩
 refine Zfg 2 rfl <| WQ.dn Z (fun w Z => ?_)
 refine Zfn rfl rfl rfl 1 Z rfl rfl rfl rfl rfl rfl (fun w Z => ?_)
 replace Z := Z.n3 L (a1 := Zd q #[.slice a2 (List.length (Za (xs ++ (Zu k)))) c2] 70) rfl
 refine Ze8 ?_
 refine ⟨by exact trivial, ?_⟩
 refine Z.dn (fun w Z => ?_)
 refine ⟨[], trivial, ?_⟩
 replace Z := (Z.sel 1 [] rfl)
 exact ⟨_, _, rfl, Z⟩
theorem Zm (q : Nat) (xs : List Int) (a : Option Addr) (c : Nat) (n : Int) (hx : xs.length ≤ 1000000) (hn : Z8 n) (Z : St g (Zd q #[.slice a (Za xs).length c] 70 :: Ze 5 1 (Za xs) a c :: L) w) :
  Sp Tryz.prog 28 [.pointer (some ⟨q, 0, none⟩), .int .i64 n] w (fun v w' => ∃ (a2 : Option Addr) (c2 : Nat), v = .tuple #[] ∧ St g (Zd q #[.slice a2 (Za (xs ++ eZ n)).length c2] 70 :: Ze 5 1 (Za (xs ++ eZ n)) a2 c2 :: L) w') := by
 refine Sp.enter Tryz.func28 rfl (by kernel_rfl) (by kernel_rfl) ?_
 refine WC.region ?_
 have hz := Zbz hn
 refine Ze6 2 rfl <| Zfb rfl rfl (Ze0 n hn Z) rfl ?_
 clear Z; rintro _ w ⟨rfl, Z⟩
 replace Z := Z.n2 L rfl
 refine Zfb rfl rfl (ZS _ _ _ _ (zz n) (by first | omega | (simp <;> omega)) (by omega) Z) rfl ?_
 generalize hY1 : xs ++ eU (zz n) = Y1
 clear Z; rintro _ w ⟨a1, c1, rfl, Z⟩
 have hY1f0 : (List.length Y1) ≤ (List.length xs) + 10 := by rw [← hY1, List.length_append]; exact Nat.add_le_add_left (ZO (by omega)) _
 replace Z : St g (Zd q #[.slice a1 (Za Y1).length c1] 70 :: Ze 5 1 (Za Y1) a1 c1 :: L) w := Z
 refine Ze8 ?_
 refine ⟨[], trivial, ?_⟩
 subst hY1; exact ⟨_, _, rfl, Z⟩
theorem Hz (q : Nat) (xs : List Int) (a : Option Addr) (c : Nat) (x : Bool) (hx : xs.length ≤ 1000000) (Z : St g (Zd q #[.slice a (Za xs).length c] 70 :: Ze 5 1 (Za xs) a c :: L) w) :
  Sp Tryz.prog 29 [.pointer (some ⟨q, 0, none⟩), .bool x] w (fun v w' => ∃ (a2 : Option Addr) (c2 : Nat), v = .tuple #[] ∧ St g (Zd q #[.slice a2 (Za (xs ++ eF x)).length c2] 70 :: Ze 5 1 (Za (xs ++ eF x)) a2 c2 :: L) w') := by
 refine Sp.enter Tryz.func29 rfl (by kernel_rfl) (by kernel_rfl) ?_
 refine Ze7 <| WC.region <| Ze6 1 rfl <| Ze8 <| Zgf rfl (fun cd1 => ?_) (fun cd1 => ?_)
 ·refine WC.region <| Ze6 1 rfl <| Zfb rfl rfl (XL _ _ _ _ 1 (by first | omega | (simp <;> omega)) Z) rfl ?_
  generalize hY1 : xs ++ [1] = Y1
  clear Z; rintro _ w ⟨a1, c1, rfl, Z⟩
  have hY1f0 : (List.length Y1) = (List.length xs) + 1 := by rw [← hY1]; simp
  replace Z : St g (Zd q #[.slice a1 (Za Y1).length c1] 70 :: Ze 5 1 (Za Y1) a1 c1 :: L) w := Z
  refine Ze8 ?_
  refine ⟨[], trivial, ?_⟩
  subst hY1; rw [eF, if_pos cd1]; exact ⟨_, _, rfl, Z⟩
 ·refine WC.region <| Ze6 1 rfl <| Zfb rfl rfl (XL _ _ _ _ 0 (by first | omega | (simp <;> omega)) Z) rfl ?_
  generalize hY1 : xs ++ [0] = Y1
  clear Z; rintro _ w ⟨a1, c1, rfl, Z⟩
  have hY1f0 : (List.length Y1) = (List.length xs) + 1 := by rw [← hY1]; simp
  replace Z : St g (Zd q #[.slice a1 (Za Y1).length c1] 70 :: Ze 5 1 (Za Y1) a1 c1 :: L) w := Z
  refine Ze8 ?_
  refine ⟨[], trivial, ?_⟩
  subst hY1; rw [eF, if_neg (by simp [cd1])]; exact ⟨_, _, rfl, Z⟩
theorem UL (q : Nat) (xs : List Int) (a : Option Addr) (c : Nat) (l : List Int) (la : Option Addr) (lc : Nat) (hx : xs.length ≤ 1000000) (hl : l.length ≤ 1000000) (Z : St g (Zd q #[.slice a (Za xs).length c] 70 :: Ze 5 1 (Za xs) a c :: Sh 5 1 (Za l) la lc :: L) w) :
  Sp Tryz.prog 32 [.pointer (some ⟨q, 0, none⟩), .slice la (Za l).length lc] w (fun v w' => ∃ (a2 : Option Addr) (c2 : Nat), v = .tuple #[] ∧ St g (Zd q #[.slice a2 (Za (xs ++ Yp l)).length c2] 70 :: Ze 5 1 (Za (xs ++ Yp l)) a2 c2 :: Sh 5 1 (Za l) la lc :: L) w') := by
 refine Sp.enter Tryz.func32 rfl (by kernel_rfl) (by kernel_rfl) ?_
 refine Ze7 <| WC.region ?_
 have hl8 := Zf l
 refine Ze6 4 rfl <| Zfi 7 rfl (Ye (by omega)) ?_
 refine Zfb rfl rfl (ZS _ _ _ _ (List.length (Za l) : Int) (by first | omega | (simp <;> omega)) (by omega) Z) rfl ?_
 generalize hY1 : xs ++ eU (List.length (Za l) : Int) = Y1
 clear Z; rintro _ w ⟨a1, c1, rfl, Z⟩
 have hY1f0 : (List.length Y1) ≤ (List.length xs) + 10 := by rw [← hY1, List.length_append]; exact Nat.add_le_add_left (ZO (by omega)) _
 replace Z := Z.n3 L (a0 := Zd q #[.slice a1 (Za Y1).length c1] 70) (a1 := Ze 5 1 (Za Y1) a1 c1) rfl
 refine Ze8 <| WC.region <| Zfd 6 [.slice a1 (Za Y1).length c1] rfl (by exact Z.ld 0 rfl rfl) ?_
 refine Zfz rfl rfl 1 (Za (Y1 ++ l)) el_33 Z rfl (Z.srcS 2 rfl) (Z0 _ _).symm (Rm.of (by first | omega | (simp <;> omega)) (by decide)) rfl rfl (fun a2 c2 w Z => ?_)
 replace Z := Z.n3 L (a1 := Ze 5 1 (Za (Y1 ++ l)) a2 c2) rfl
 refine Ze6 2 rfl <| Zfn rfl rfl rfl 0 Z rfl rfl rfl rfl rfl rfl (fun w Z => ?_)
 replace Z := Z.n3 L (a0 := Zd q #[.slice a2 (Za (Y1 ++ l)).length c2] 70) rfl
 refine Ze8 ?_
 refine ⟨[], trivial, ?_⟩
 subst hY1; rw [hl8] at Z; rw [Yp, ← List.append_assoc]; exact ⟨_, _, rfl, Z⟩
theorem Qi (q : Nat) (xs : List Int) (a : Option Addr) (c : Nat) (l : List (Int × Int)) (la : Option Addr) (lc : Nat) (hx : xs.length ≤ 1000000) (hl : l.length ≤ 10000) (hx2 : xs.length + 31 * l.length ≤ 900000) (hw : Ua l) (Z : St g (Zd q #[.slice a (Za xs).length c] 70 :: Ze 5 1 (Za xs) a c :: Sh 27 2 (Zo l) la lc :: L) w) :
  Sp Tryz.prog 30 [.pointer (some ⟨q, 0, none⟩), .slice la (Zo l).length lc] w (fun v w' => ∃ (a2 : Option Addr) (c2 : Nat), v = .tuple #[] ∧ St g (Zd q #[.slice a2 (Za (xs ++ YF l)).length c2] 70 :: Ze 5 1 (Za (xs ++ YF l)) a2 c2 :: Sh 27 2 (Zo l) la lc :: L) w') := by
 refine Sp.enter Tryz.func30 rfl (by kernel_rfl) (by kernel_rfl) ?_
 refine Ze7 <| WC.region ?_
 have hl2 := Z_ l
 refine Ze6 4 rfl <| Zfi 9 rfl (Ye (by omega)) ?_
 refine Zfb rfl rfl (ZS _ _ _ _ (List.length (Zo l) : Int) (by first | omega | (simp <;> omega)) (by omega) Z) rfl ?_
 generalize hY1 : xs ++ eU (List.length (Zo l) : Int) = Y1
 clear Z; rintro _ w ⟨a1, c1, rfl, Z⟩
 have hY1f0 : (List.length Y1) ≤ (List.length xs) + 10 := by rw [← hY1, List.length_append]; exact Nat.add_le_add_left (ZO (by omega)) _
 replace Z := Z.n3 L (a0 := Zd q #[.slice a1 (Za Y1).length c1] 70) (a1 := Ze 5 1 (Za Y1) a1 c1) rfl
 refine Ze8 <| Ze7 <| WC.region <| Ze6 3 rfl <| Ze8 <| Zfj <| Zft [0, 11, 12, 13] (fun kM vs w => ∃ (k : Nat) (ys : List Int) (a3 : Option Addr) (c3 : Nat), vs = [.pointer (some ⟨q, 0, none⟩), .slice la (Zo l).length lc, .int .i64 (List.length (Zo l) : Int), .int .i64 (k : Int)] ∧ St g (Zd q #[.slice a3 (Za ys).length c3] 70 :: Ze 5 1 (Za ys) a3 c3 :: Sh 27 2 (Zo l) la lc :: L) w ∧ (k ≤ l.length) ∧ (ys = xs ++ (eU l.length ++ (l.take k).flatMap U4)) ∧ (ys.length ≤ xs.length + 10 + 20 * k) ∧ (l.length - k) = kM) ((List.length l) - 0) ⟨0, Y1, _, _, rfl, Z, (Nat.zero_le _), (by rw [← hY1, hl2]; simp), (by omega), rfl⟩ ?_
 clear Z; rintro _ _ w j ⟨k, ys, a3, c3, rfl, Z, hk, hys, hyl, rfl⟩
 refine Ze7 <| WC.region <| Ze6 1 rfl <| Ze8 <| Ze7 <| Zfe rfl (fun cd1 => ?_) (fun cd1 => ?_)
 ·refine Zfc ?_
  as_aux_lemma =>
  refine Ze7 <| Zfj <| Ze7 <| WC.region ?_
  obtain ⟨x, hx2⟩ : ∃ x, l[k]? = some x := ⟨_, List.getElem?_eq_getElem (by omega)⟩; have hxw := hw x (List.mem_of_getElem? hx2); obtain ⟨hw1, hw2⟩ := hxw
  refine Zfw rfl rfl (i := (k : Int)) (k) el_30 rfl rfl (by omega) (Zt (ZW hx2)) (Z.rdS 2 rfl (ZW hx2)).1 ?_
  refine Zf9 rfl rfl [.int .i64 x.1, .int .i64 x.2] Qw rfl (Z.rdS 2 rfl (ZW hx2)).2 <| Zf5 rfl rfl Zb5 Z (fun b1 w Z => ?_)
  refine Zfu rfl rfl rfl 0 Z rfl rfl rfl rfl rfl Qw (fun w Z => ?_)
  replace Z := Z.n4 L (a0 := Zd b1 #[.int .i64 x.1, .int .i64 x.2] 27) rfl
  refine Ze8 <| Ze7 <| WC.region <| Zfd 3 [.int .i64 x.1] rfl (by exact Z.ld 0 rfl rfl) ?_
  refine Zfb rfl rfl (Zm _ _ _ _ x.1 (by first | omega | (simp <;> omega)) (by assumption) (Z.sel 3 [1, 1, 0] rfl)) rfl ?_
  generalize hY2 : ys ++ eZ x.1 = Y2
  clear Z; rintro _ w ⟨a2, c2, rfl, Z⟩
  have hY2f0 : (List.length Y2) ≤ (List.length ys) + 10 := by rw [← hY2, List.length_append]; exact Nat.add_le_add_left (Zl (by assumption)) _
  replace Z := Z.n4 L (a0 := Zd q #[.slice a2 (Za Y2).length c2] 70) (a1 := Ze 5 1 (Za Y2) a2 c2) rfl
  refine Ze8 <| WC.region <| Zfd 3 [.int .i64 x.2] rfl (by exact Z.ld 2 rfl rfl) ?_
  refine Zfb rfl rfl (Zm _ _ _ _ x.2 (by first | omega | (simp <;> omega)) (by assumption) Z) rfl ?_
  generalize hY3 : Y2 ++ eZ x.2 = Y3
  clear Z; rintro _ w ⟨a3, c3, rfl, Z⟩
  have hY3f0 : (List.length Y3) ≤ (List.length Y2) + 10 := by rw [← hY3, List.length_append]; exact Nat.add_le_add_left (Zl (by assumption)) _
  replace Z := Z.n4 L (a0 := Zd q #[.slice a3 (Za Y3).length c3] 70) (a1 := Ze 5 1 (Za Y3) a3 c3) rfl
  refine Ze8 ?_
  as_aux_lemma =>
  refine WC.region <| Ze6 1 rfl <| Zfi 25 rfl (ZF (by omega)) ?_
  refine Ze6 1 rfl <| Ze8 ?_
  exact ⟨_, by omega, k + 1, Y3, _, _, rfl, (Z.sel 3 [0, 0] rfl), (by omega), (by rw [Xd U4 hx2, U4, ← hY3, ← hY2, hys]; simp only [List.append_assoc]), (by omega), rfl⟩
 ·refine Zfv ?_
  refine ⟨[], trivial, ?_⟩
  have h9 : ys = xs ++ YF l := by rw [hys, XP U4 (by omega), YF]; rfl
  rw [← h9]; exact ⟨_, _, rfl, Z⟩
theorem Qq (q : Nat) (xs : List Int) (a : Option Addr) (c : Nat) (l : List (Int × Int × Int × Int)) (la : Option Addr) (lc : Nat) (hx : xs.length ≤ 1000000) (hl : l.length ≤ 10000) (hx2 : xs.length + 31 * l.length ≤ 900000) (hw : Qm l) (Z : St g (Zd q #[.slice a (Za xs).length c] 70 :: Ze 5 1 (Za xs) a c :: Sh 88 4 (Zn l) la lc :: L) w) :
  Sp Tryz.prog 31 [.pointer (some ⟨q, 0, none⟩), .slice la (Zn l).length lc] w (fun v w' => ∃ (a2 : Option Addr) (c2 : Nat), v = .tuple #[] ∧ St g (Zd q #[.slice a2 (Za (xs ++ XO l)).length c2] 70 :: Ze 5 1 (Za (xs ++ XO l)) a2 c2 :: Sh 88 4 (Zn l) la lc :: L) w') := by
 refine Sp.enter Tryz.func31 rfl (by kernel_rfl) (by kernel_rfl) ?_
 refine Ze7 <| WC.region ?_
 have hl2 := Z9 l
 refine Ze6 4 rfl <| Zfi 9 rfl (Ye (by omega)) ?_
 refine Zfb rfl rfl (ZS _ _ _ _ (List.length (Zn l) : Int) (by first | omega | (simp <;> omega)) (by omega) Z) rfl ?_
 generalize hY1 : xs ++ eU (List.length (Zn l) : Int) = Y1
 clear Z; rintro _ w ⟨a1, c1, rfl, Z⟩
 have hY1f0 : (List.length Y1) ≤ (List.length xs) + 10 := by rw [← hY1, List.length_append]; exact Nat.add_le_add_left (ZO (by omega)) _
 replace Z := Z.n3 L (a0 := Zd q #[.slice a1 (Za Y1).length c1] 70) (a1 := Ze 5 1 (Za Y1) a1 c1) rfl
 refine Ze8 <| Ze7 <| WC.region <| Ze6 3 rfl <| Ze8 <| Zfj <| Zft [0, 11, 12, 13] (fun kM vs w => ∃ (k : Nat) (ys : List Int) (a3 : Option Addr) (c3 : Nat), vs = [.pointer (some ⟨q, 0, none⟩), .slice la (Zn l).length lc, .int .i64 (List.length (Zn l) : Int), .int .i64 (k : Int)] ∧ St g (Zd q #[.slice a3 (Za ys).length c3] 70 :: Ze 5 1 (Za ys) a3 c3 :: Sh 88 4 (Zn l) la lc :: L) w ∧ (k ≤ l.length) ∧ (ys = xs ++ (eU l.length ++ (l.take k).flatMap HE)) ∧ (ys.length ≤ xs.length + 10 + 31 * k) ∧ (l.length - k) = kM) ((List.length l) - 0) ⟨0, Y1, _, _, rfl, Z, (Nat.zero_le _), (by rw [← hY1, hl2]; simp), (by omega), rfl⟩ ?_
 clear Z; rintro _ _ w j ⟨k, ys, a3, c3, rfl, Z, hk, hys, hyl, rfl⟩
 refine Ze7 <| WC.region <| Ze6 1 rfl <| Ze8 <| Ze7 <| Zfe rfl (fun cd1 => ?_) (fun cd1 => ?_)
 ·refine Zfc ?_
  as_aux_lemma =>
  refine Ze7 <| Zfj <| Ze7 <| WC.region ?_
  obtain ⟨x, hx2⟩ : ∃ x, l[k]? = some x := ⟨_, List.getElem?_eq_getElem (by omega)⟩; have hxw := hw x (List.mem_of_getElem? hx2); obtain ⟨hw1, hw2, hw3, hw4⟩ := hxw
  refine Zfw rfl rfl (i := (k : Int)) (k) el_31 rfl rfl (by omega) (Zt (Zp hx2)) (Z.rdS 2 rfl (Zp hx2)).1 ?_
  refine Zf9 rfl rfl [.int .i64 x.1, .int .i64 x.2.1, .int .i64 x.2.2.1, .int .i64 x.2.2.2] Jt rfl (Z.rdS 2 rfl (Zp hx2)).2 <| Zf5 rfl rfl HR Z (fun b1 w Z => ?_)
  refine Zfu rfl rfl rfl 0 Z rfl rfl rfl rfl rfl Jt (fun w Z => ?_)
  replace Z := Z.n4 L (a0 := Zd b1 #[.int .i64 x.1, .int .i64 x.2.1, .int .i64 x.2.2.1, .int .i64 x.2.2.2] 88) rfl
  refine Ze8 <| Ze7 <| WC.region <| Zfd 4 [.int .i64 x.1] rfl (by exact Z.ld 0 rfl rfl) ?_
  refine Zfm 20 (.int .u8 (x.1 % 256)) (congrArg (Value.int .u8) (by rfl)) ?_
  refine Zfb rfl rfl (XL _ _ _ _ (x.1 % 256) (by first | omega | (simp <;> omega)) (Z.sel 3 [1, 1, 0] rfl)) rfl ?_
  generalize hY2 : ys ++ [x.1 % 256] = Y2
  clear Z; rintro _ w ⟨a2, c2, rfl, Z⟩
  have hY2f0 : (List.length Y2) = (List.length ys) + 1 := by rw [← hY2]; simp
  replace Z := Z.n4 L (a0 := Zd q #[.slice a2 (Za Y2).length c2] 70) (a1 := Ze 5 1 (Za Y2) a2 c2) rfl
  refine Ze8 <| Ze7 <| WC.region <| Zfd 3 [.int .i64 x.2.1] rfl (by exact Z.ld 2 rfl rfl) ?_
  refine Zfb rfl rfl (Zm _ _ _ _ x.2.1 (by first | omega | (simp <;> omega)) (by assumption) Z) rfl ?_
  generalize hY3 : Y2 ++ eZ x.2.1 = Y3
  clear Z; rintro _ w ⟨a3, c3, rfl, Z⟩
  have hY3f0 : (List.length Y3) ≤ (List.length Y2) + 10 := by rw [← hY3, List.length_append]; exact Nat.add_le_add_left (Zl (by assumption)) _
  replace Z := Z.n4 L (a0 := Zd q #[.slice a3 (Za Y3).length c3] 70) (a1 := Ze 5 1 (Za Y3) a3 c3) rfl
  refine Ze8 ?_
  as_aux_lemma =>
  refine Ze7 <| WC.region <| Zfd 3 [.int .i64 x.2.2.1] rfl (by exact Z.ld 2 rfl rfl) ?_
  refine Zfb rfl rfl (Zm _ _ _ _ x.2.2.1 (by first | omega | (simp <;> omega)) (by assumption) Z) rfl ?_
  generalize hY4 : Y3 ++ eZ x.2.2.1 = Y4
  clear Z; rintro _ w ⟨a4, c4, rfl, Z⟩
  have hY4f0 : (List.length Y4) ≤ (List.length Y3) + 10 := by rw [← hY4, List.length_append]; exact Nat.add_le_add_left (Zl (by assumption)) _
  replace Z := Z.n4 L (a0 := Zd q #[.slice a4 (Za Y4).length c4] 70) (a1 := Ze 5 1 (Za Y4) a4 c4) rfl
  refine Ze8 <| WC.region <| Zfd 3 [.int .i64 x.2.2.2] rfl (by exact Z.ld 2 rfl rfl) ?_
  refine Zfb rfl rfl (Zm _ _ _ _ x.2.2.2 (by first | omega | (simp <;> omega)) (by assumption) Z) rfl ?_
  generalize hY5 : Y4 ++ eZ x.2.2.2 = Y5
  clear Z; rintro _ w ⟨a5, c5, rfl, Z⟩
  have hY5f0 : (List.length Y5) ≤ (List.length Y4) + 10 := by rw [← hY5, List.length_append]; exact Nat.add_le_add_left (Zl (by assumption)) _
  replace Z := Z.n4 L (a0 := Zd q #[.slice a5 (Za Y5).length c5] 70) (a1 := Ze 5 1 (Za Y5) a5 c5) rfl
  refine Ze8 <| WC.region <| Ze6 1 rfl <| Zfi 34 rfl (ZF (by omega)) ?_
  refine Ze6 1 rfl <| Ze8 ?_
  exact ⟨_, by omega, k + 1, Y5, _, _, rfl, (Z.sel 3 [0, 0] rfl), (by omega), (by rw [Xd HE hx2, HE, ← hY5, ← hY4, ← hY3, ← hY2, hys]; simp only [List.append_assoc, List.cons_append, List.nil_append]), (by omega), rfl⟩
 ·refine Zfv ?_
  refine ⟨[], trivial, ?_⟩
  have h9 : ys = xs ++ XO l := by rw [hys, XP HE (by omega), XO]; rfl
  rw [← h9]; exact ⟨_, _, rfl, Z⟩
end Go.Proofs.YtlifpobidhfbfaaGreatDoor
namespace Go.Proofs.YtlifpobidhfbfaaGreatDoor
open Go Go.V
variable {g w : World} {L : List HP}
theorem UB (c : Int) (Z : St g (L) w) :
  Sp Tryz.prog 73 [.int .i64 c] w (fun v w' => v = .tuple #[.string (Y_ (fs c)), .bool (Zdo c)] ∧ St g (L) w') := by
 refine Sp.enter Tryz.func73 rfl (by kernel_rfl) (by kernel_rfl) ?_
 refine Ze7 <| WC.region <| Ze6 2 rfl <| Ze8 <| Ze7 <| Ze7 <| WC.region <| Ze6 1 rfl <| Ze8 <| Zfj <| Ze7 <| Ze7 ?_
 refine WC.region <| Ze6 2 rfl <| Ze8 <| Zfe rfl (fun cd1 => ?_) (fun cd1 => ?_)
 ·refine Zfc <| Zfs rfl (decide_eq_true cd1) <| Ze7 <| WC.region <| Ze6 2 rfl <| Ze8 <| Zfa ?_
  refine ⟨[.string ⟨#[]⟩, .bool true], ⟨rfl, rfl⟩, ?_⟩
  subst cd1; exact ⟨rfl, Z⟩
 ·refine WC.region <| Ze6 2 rfl <| Ze8 <| Zfe rfl (fun cd2 => ?_) (fun cd2 => ?_)
  ·refine Ze7 <| WC.region <| Ze6 2 rfl <| Ze8 ?_
   as_aux_lemma =>
   refine Zfa ?_
   refine ⟨[.string ⟨#[]⟩, .bool true], ⟨rfl, rfl⟩, ?_⟩
   subst cd2; exact ⟨rfl, Z⟩
  ·refine Ze7 <| Ze7 <| WC.region <| Ze6 2 rfl <| Ze8 ?_
   as_aux_lemma =>
   refine Zfe rfl (fun cd3 => ?_) (fun cd3 => ?_)
   ·refine Zfc <| Zfs rfl (decide_eq_true cd3) <| Ze7 <| WC.region <| Ze6 2 rfl <| Ze8 <| Zfa ?_
    refine ⟨[.string ⟨#[65, 75]⟩, .bool true], ⟨rfl, rfl⟩, ?_⟩
    subst cd3; exact ⟨rfl, Z⟩
   ·refine Ze7 <| WC.region <| Ze6 2 rfl <| Ze8 <| Zfe rfl (fun cd4 => ?_) (fun cd4 => ?_)
    ·refine Zfc <| Zfs rfl (decide_eq_true cd4) <| Ze7 <| WC.region <| Ze6 2 rfl <| Ze8 <| Zfa ?_
     refine ⟨[.string ⟨#[65, 75]⟩, .bool true], ⟨rfl, rfl⟩, ?_⟩
     subst cd4; exact ⟨rfl, Z⟩
    ·refine Ze7 <| WC.region <| Ze6 2 rfl <| Ze8 <| Zfe rfl (fun cd5 => ?_) (fun cd5 => ?_)
     ·refine Zfc <| Zfs rfl (decide_eq_true cd5) <| Ze7 <| WC.region <| Ze6 2 rfl <| Ze8 <| Zfa ?_
      refine ⟨[.string ⟨#[65, 75]⟩, .bool true], ⟨rfl, rfl⟩, ?_⟩
      subst cd5; exact ⟨rfl, Z⟩
     ·refine Ze7 <| WC.region <| Ze6 2 rfl <| Ze8 <| Zfe rfl (fun cd6 => ?_) (fun cd6 => ?_)
      ·refine Zfc <| Zfs rfl (decide_eq_true cd6) <| Ze7 <| WC.region <| Ze6 2 rfl <| Ze8 <| Zfa ?_
       refine ⟨[.string ⟨#[65, 75]⟩, .bool true], ⟨rfl, rfl⟩, ?_⟩
       subst cd6; exact ⟨rfl, Z⟩
      ·refine WC.region <| Ze6 2 rfl <| Ze8 <| Zfe rfl (fun cd7 => ?_) (fun cd7 => ?_)
       ·refine Ze7 <| WC.region <| Ze6 2 rfl <| Ze8 <| Zfa ?_
        refine ⟨[.string ⟨#[65, 75]⟩, .bool true], ⟨rfl, rfl⟩, ?_⟩
        subst cd7; exact ⟨rfl, Z⟩
       ·refine Ze7 <| Ze7 <| WC.region <| Ze6 2 rfl <| Ze8 ?_
        as_aux_lemma =>
        refine Zfe rfl (fun cd8 => ?_) (fun cd8 => ?_)
        ·refine Zfc <| Zfs rfl (decide_eq_true cd8) <| Ze7 <| WC.region <| Ze6 2 rfl <| Ze8 <| Zfa ?_
         refine ⟨[.string ⟨#[65, 75, 86]⟩, .bool true], ⟨rfl, rfl⟩, ?_⟩
         subst cd8; exact ⟨rfl, Z⟩
        ·refine Ze7 <| WC.region <| Ze6 2 rfl <| Ze8 <| Zfe rfl (fun cd9 => ?_) (fun cd9 => ?_)
         ·refine Zfc <| Zfs rfl (decide_eq_true cd9) <| Ze7 <| WC.region <| Ze6 2 rfl <| Ze8 <| Zfa ?_
          refine ⟨[.string ⟨#[65, 75, 86]⟩, .bool true], ⟨rfl, rfl⟩, ?_⟩
          subst cd9; exact ⟨rfl, Z⟩
         ·refine WC.region <| Ze6 2 rfl <| Ze8 <| Zfe rfl (fun cd10 => ?_) (fun cd10 => ?_)
          ·refine Ze7 <| WC.region <| Ze6 2 rfl <| Ze8 <| Zfa ?_
           refine ⟨[.string ⟨#[65, 75, 86]⟩, .bool true], ⟨rfl, rfl⟩, ?_⟩
           subst cd10; exact ⟨rfl, Z⟩
          ·refine Ze7 <| WC.region <| Ze6 2 rfl <| Ze8 <| Zfe rfl (fun cd11 => ?_) (fun cd11 => ?_)
           ·refine Ze7 <| WC.region <| Ze6 2 rfl <| Ze8 <| Zfa ?_
            refine ⟨[.string ⟨#[65, 67]⟩, .bool true], ⟨rfl, rfl⟩, ?_⟩
            subst cd11; exact ⟨rfl, Z⟩
           ·refine Ze7 <| WC.region <| Ze6 2 rfl <| Ze8 <| Zfe rfl (fun cd12 => ?_) (fun cd12 => ?_)
            ·refine Ze7 <| WC.region <| Ze6 2 rfl <| Ze8 <| Zfa ?_
             refine ⟨[.string ⟨#[69]⟩, .bool true], ⟨rfl, rfl⟩, ?_⟩
             subst cd12; exact ⟨rfl, Z⟩
            ·refine Ze7 <| Ze7 <| WC.region <| Ze6 2 rfl <| Ze8 ?_
             as_aux_lemma =>
             refine Zfe rfl (fun cd13 => ?_) (fun cd13 => ?_)
             ·refine Zfc <| Zfs rfl (decide_eq_true cd13) <| Ze7 <| WC.region <| Ze6 2 rfl <| Ze8 <| Zfa ?_
              refine ⟨[.string ⟨#[65]⟩, .bool true], ⟨rfl, rfl⟩, ?_⟩
              subst cd13; exact ⟨rfl, Z⟩
             ·refine Ze7 <| WC.region <| Ze6 2 rfl <| Ze8 <| Zfe rfl (fun cd14 => ?_) (fun cd14 => ?_)
              ·refine Zfc <| Zfs rfl (decide_eq_true cd14) <| Ze7 <| WC.region <| Ze6 2 rfl <| Ze8 <| Zfa ?_
               refine ⟨[.string ⟨#[65]⟩, .bool true], ⟨rfl, rfl⟩, ?_⟩
               subst cd14; exact ⟨rfl, Z⟩
              ·refine Ze7 <| WC.region <| Ze6 2 rfl <| Ze8 <| Zfe rfl (fun cd15 => ?_) (fun cd15 => ?_)
               ·refine Zfc <| Zfs rfl (decide_eq_true cd15) <| Ze7 <| WC.region <| Ze6 2 rfl <| Ze8 <| Zfa ?_
                refine ⟨[.string ⟨#[65]⟩, .bool true], ⟨rfl, rfl⟩, ?_⟩
                subst cd15; exact ⟨rfl, Z⟩
               ·refine Ze7 <| WC.region <| Ze6 2 rfl <| Ze8 <| Zfe rfl (fun cd16 => ?_) (fun cd16 => ?_)
                ·refine Zfc <| Zfs rfl (decide_eq_true cd16) <| Ze7 <| WC.region <| Ze6 2 rfl <| Ze8 <| Zfa ?_
                 refine ⟨[.string ⟨#[65]⟩, .bool true], ⟨rfl, rfl⟩, ?_⟩
                 subst cd16; exact ⟨rfl, Z⟩
                ·refine WC.region <| Ze6 2 rfl <| Ze8 <| Zfe rfl (fun cd17 => ?_) (fun cd17 => ?_)
                 ·refine Ze7 <| WC.region <| Ze6 2 rfl <| Ze8 <| Zfa ?_
                  refine ⟨[.string ⟨#[65]⟩, .bool true], ⟨rfl, rfl⟩, ?_⟩
                  subst cd17; exact ⟨rfl, Z⟩
                 ·refine Ze7 <| WC.region <| Ze6 2 rfl <| Ze8 <| Zfe rfl (fun cd18 => ?_) (fun cd18 => ?_)
                  ·refine Ze7 <| WC.region <| Ze6 2 rfl <| Ze8 ?_
                   as_aux_lemma =>
                   refine Zfa ?_
                   refine ⟨[.string ⟨#[65, 66, 78]⟩, .bool true], ⟨rfl, rfl⟩, ?_⟩
                   subst cd18; exact ⟨rfl, Z⟩
                  ·refine Ze7 <| WC.region <| Ze6 2 rfl <| Ze8 ?_
                   as_aux_lemma =>
                   refine Zfe rfl (fun cd19 => ?_) (fun cd19 => ?_)
                   ·refine Ze7 <| WC.region <| Ze6 2 rfl <| Ze8 <| Zfa ?_
                    refine ⟨[.string ⟨#[65, 66, 78, 86]⟩, .bool true], ⟨rfl, rfl⟩, ?_⟩
                    subst cd19; exact ⟨rfl, Z⟩
                   ·refine Ze7 <| Ze7 <| WC.region <| Ze6 2 rfl <| Ze8 <| Zfe rfl (fun cd20 => ?_) (fun cd20 => ?_)
                    ·refine Zfc <| Zfs rfl (decide_eq_true cd20) <| Ze7 <| WC.region <| Ze6 2 rfl <| Ze8 <| Zfa ?_
                     refine ⟨[.string ⟨#[65, 76, 72, 78]⟩, .bool true], ⟨rfl, rfl⟩, ?_⟩
                     subst cd20; exact ⟨rfl, Z⟩
                    ·refine WC.region <| Ze6 2 rfl <| Ze8 <| Zfe rfl (fun cd21 => ?_) (fun cd21 => ?_)
                     ·refine Ze7 <| WC.region <| Ze6 2 rfl <| Ze8 <| Zfa ?_
                      refine ⟨[.string ⟨#[65, 76, 72, 78]⟩, .bool true], ⟨rfl, rfl⟩, ?_⟩
                      subst cd21; exact ⟨rfl, Z⟩
                     ·refine Ze7 <| Ze7 <| WC.region <| Ze6 2 rfl <| Ze8 <| Zfe rfl (fun cd22 => ?_) (fun cd22 => ?_)
                      ·refine Zfc <| Zfs rfl (decide_eq_true cd22) <| Ze7 <| WC.region <| Ze6 2 rfl <| Ze8 <| Zfa ?_
                       refine ⟨[.string ⟨#[65, 66]⟩, .bool true], ⟨rfl, rfl⟩, ?_⟩
                       subst cd22; exact ⟨rfl, Z⟩
                      ·refine Ze7 <| WC.region <| Ze6 2 rfl <| Ze8 <| Zfe rfl (fun cd23 => ?_) (fun cd23 => ?_)
                       ·refine Zfc <| Zfs rfl (decide_eq_true cd23) <| Ze7 <| WC.region <| Ze6 2 rfl <| Ze8 ?_
                        as_aux_lemma =>
                        refine Zfa ?_
                        refine ⟨[.string ⟨#[65, 66]⟩, .bool true], ⟨rfl, rfl⟩, ?_⟩
                        subst cd23; exact ⟨rfl, Z⟩
                       ·refine Ze7 <| WC.region <| Ze6 2 rfl <| Ze8 ?_
                        as_aux_lemma =>
                        refine Zfe rfl (fun cd24 => ?_) (fun cd24 => ?_)
                        ·refine Zfc <| Zfs rfl (decide_eq_true cd24) <| Ze7 <| WC.region <| Ze6 2 rfl <| Ze8 <| Zfa ?_
                         refine ⟨[.string ⟨#[65, 66]⟩, .bool true], ⟨rfl, rfl⟩, ?_⟩
                         subst cd24; exact ⟨rfl, Z⟩
                        ·refine WC.region <| Ze6 2 rfl <| Ze8 <| Zfe rfl (fun cd25 => ?_) (fun cd25 => ?_)
                         ·refine Ze7 <| WC.region <| Ze6 2 rfl <| Ze8 <| Zfa ?_
                          refine ⟨[.string ⟨#[65, 66]⟩, .bool true], ⟨rfl, rfl⟩, ?_⟩
                          subst cd25; exact ⟨rfl, Z⟩
                         ·refine Ze7 <| Ze7 <| WC.region <| Ze6 2 rfl <| Ze8 <| Zfe rfl (fun cd26 => ?_) (fun cd26 => ?_)
                          ·refine Zfc <| Zfs rfl (decide_eq_true cd26) <| Ze7 <| WC.region <| Ze6 2 rfl <| Ze8 <| Zfa ?_
                           refine ⟨[.string ⟨#[65, 75, 78]⟩, .bool true], ⟨rfl, rfl⟩, ?_⟩
                           subst cd26; exact ⟨rfl, Z⟩
                          ·refine WC.region <| Ze6 2 rfl <| Ze8 <| Zfe rfl (fun cd27 => ?_) (fun cd27 => ?_)
                           ·refine Ze7 <| WC.region <| Ze6 2 rfl <| Ze8 <| Zfa ?_
                            refine ⟨[.string ⟨#[65, 75, 78]⟩, .bool true], ⟨rfl, rfl⟩, ?_⟩
                            subst cd27; exact ⟨rfl, Z⟩
                           ·refine Ze7 <| WC.region <| Ze6 2 rfl <| Ze8 <| Zfe rfl (fun cd28 => ?_) (fun cd28 => ?_)
                            ·refine Ze7 <| WC.region <| Ze6 2 rfl <| Ze8 <| Zfa ?_
                             refine ⟨[.string ⟨#[65, 78]⟩, .bool true], ⟨rfl, rfl⟩, ?_⟩
                             subst cd28; exact ⟨rfl, Z⟩
                            ·refine Ze7 <| Ze7 <| WC.region <| Ze6 2 rfl <| Ze8 ?_
                             as_aux_lemma =>
                             refine Zfe rfl (fun cd29 => ?_) (fun cd29 => ?_)
                             ·refine Zfc <| Zfs rfl (decide_eq_true cd29) <| Ze7 <| WC.region <| Ze6 2 rfl <| Ze8 <| Zfa ?_
                              refine ⟨[.string ⟨#[65, 76, 72]⟩, .bool true], ⟨rfl, rfl⟩, ?_⟩
                              subst cd29; exact ⟨rfl, Z⟩
                             ·refine Ze7 <| WC.region <| Ze6 2 rfl <| Ze8 <| Zfe rfl (fun cd30 => ?_) (fun cd30 => ?_)
                              ·refine Zfc <| Zfs rfl (decide_eq_true cd30) <| Ze7 <| WC.region <| Ze6 2 rfl <| Ze8 <| Zfa ?_
                               refine ⟨[.string ⟨#[65, 76, 72]⟩, .bool true], ⟨rfl, rfl⟩, ?_⟩
                               subst cd30; exact ⟨rfl, Z⟩
                              ·refine WC.region <| Ze6 2 rfl <| Ze8 <| Zfe rfl (fun cd31 => ?_) (fun cd31 => ?_)
                               ·refine Ze7 <| WC.region <| Ze6 2 rfl <| Ze8 <| Zfa ?_
                                refine ⟨[.string ⟨#[65, 76, 72]⟩, .bool true], ⟨rfl, rfl⟩, ?_⟩
                                subst cd31; exact ⟨rfl, Z⟩
                               ·refine Ze7 <| WC.region <| Ze6 2 rfl <| Ze8 <| Zfe rfl (fun cd32 => ?_) (fun cd32 => ?_)
                                ·refine Ze7 <| WC.region <| Ze6 2 rfl <| Ze8 <| Zfa ?_
                                 refine ⟨[.string ⟨#[65, 76, 72, 78, 70, 89]⟩, .bool true], ⟨rfl, rfl⟩, ?_⟩
                                 subst cd32; exact ⟨rfl, Z⟩
                                ·refine Ze7 <| WC.region <| Ze6 2 rfl <| Ze8 <| Zfe rfl (fun cd33 => ?_) (fun cd33 => ?_)
                                 ·refine Ze7 <| WC.region <| Ze6 2 rfl <| Ze8 <| Zfa ?_
                                  refine ⟨[.string ⟨#[65, 66, 83]⟩, .bool true], ⟨rfl, rfl⟩, ?_⟩
                                  subst cd33; exact ⟨rfl, Z⟩
                                 ·refine Ze7 <| WC.region <| Ze6 2 rfl <| Ze8 <| Zfe rfl (fun cd34 => ?_) (fun cd34 => ?_)
                                  ·refine Ze7 <| WC.region <| Ze6 2 rfl <| Ze8 ?_
                                   as_aux_lemma =>
                                   refine Zfa ?_
                                   refine ⟨[.string ⟨#[83]⟩, .bool true], ⟨rfl, rfl⟩, ?_⟩
                                   subst cd34; exact ⟨rfl, Z⟩
                                  ·refine Ze7 <| WC.region <| Ze6 2 rfl <| Ze8 ?_
                                   as_aux_lemma =>
                                   refine Zfe rfl (fun cd35 => ?_) (fun cd35 => ?_)
                                   ·refine Ze7 <| WC.region <| Ze6 2 rfl <| Ze8 <| Zfa ?_
                                    refine ⟨[.string ⟨#[66, 89]⟩, .bool true], ⟨rfl, rfl⟩, ?_⟩
                                    subst cd35; exact ⟨rfl, Z⟩
                                   ·refine Zfc <| Ze7 <| WC.region <| Ze6 2 rfl <| Ze8 <| Zfa ?_
                                    refine ⟨[.string ⟨#[]⟩, .bool false], ⟨rfl, rfl⟩, ?_⟩
                                    have h0 : ¬ (1 ≤ c ∧ c ≤ 35) := by omega
                                    rw [Za1 h0, Zdo, decide_eq_false h0]; exact ⟨rfl, Z⟩
end Go.Proofs.YtlifpobidhfbfaaGreatDoor
namespace Go.Proofs.YtlifpobidhfbfaaGreatDoor
open Go Go.V
variable {g w : World} {L : List HP}
theorem Hi (y : ZM) (ab ae ac : Option Addr) (cb ce cc : Nat) (f : Int) (Z : St g (L) w) :
  Sp Tryz.prog 75 [.agg #[.int .i64 y.code, .int .u64 y.a, .int .u64 y.b, .int .i64 y.key, .int .i64 y.val, .int .i64 y.lo, .int .i64 y.hi, .int .i64 y.n, .bool y.flag, .string y.name, .slice ab y.lb cb, .slice ae y.le ce, .slice ac y.lc cc], .int .i32 f] w (fun v w' => ∃ (ab2 ae2 ac2 : Option Addr) (cb2 ce2 cc2 : Nat), v = .agg #[.int .i64 (ZL f y).code, .int .u64 (ZL f y).a, .int .u64 (ZL f y).b, .int .i64 (ZL f y).key, .int .i64 (ZL f y).val, .int .i64 (ZL f y).lo, .int .i64 (ZL f y).hi, .int .i64 (ZL f y).n, .bool (ZL f y).flag, .string (ZL f y).name, .slice ab2 (ZL f y).lb cb2, .slice ae2 (ZL f y).le ce2, .slice ac2 (ZL f y).lc cc2] ∧ St g (L) w') := by
 refine Sp.enter Tryz.func75 rfl (by kernel_rfl) (by kernel_rfl) ?_
 refine Ze7 <| WC.region <| Zf0 rfl rfl #[.int .i64 y.code, .int .u64 y.a, .int .u64 y.b, .int .i64 y.key, .int .i64 y.val, .int .i64 y.lo, .int .i64 y.hi, .int .i64 y.n, .bool y.flag, .string y.name, .slice ab y.lb cb, .slice ae y.le ce, .slice ac y.lc cc] Z rfl rfl (fun b1 w Z => ?_)
 refine Zf5 rfl rfl JK Z (fun b2 w Z => ?_)
 refine Ze8 <| Ze7 <| Ze7 <| WC.region <| Ze6 1 rfl <| Ze8 <| Zfj <| Ze7 <| WC.region <| Ze6 2 rfl <| Ze8 <| Zfe rfl (fun cd1 => ?_) (fun cd1 => ?_)
 ·refine WC.region <| Ze6 1 rfl <| Zfn rfl rfl rfl 1 Z rfl rfl rfl rfl rfl rfl (fun w Z => ?_)
  replace Z : St g (Zd b2 #[.int .i64 0, .int .u64 0, .int .u64 0, .int .i64 0, .int .i64 0, .int .i64 0, .int .i64 0, .int .i64 0, .bool false, .string ⟨#[]⟩, .slice none 0 0, .slice none 0 0, .slice none 0 0] 66 :: Zd b1 #[.int .i64 y.code, .int .u64 0, .int .u64 y.b, .int .i64 y.key, .int .i64 y.val, .int .i64 y.lo, .int .i64 y.hi, .int .i64 y.n, .bool y.flag, .string y.name, .slice ab y.lb cb, .slice ae y.le ce, .slice ac y.lc cc] 66 :: L) w := Z
  refine Ze8 <| Ze7 <| WC.region <| Zfy rfl rfl 1 Z rfl rfl Zk <| Zfu rfl rfl rfl 0 Z rfl rfl rfl rfl rfl Zk (fun w Z => ?_)
  replace Z := Z.n2 L (a0 := Zd b2 #[.int .i64 y.code, .int .u64 0, .int .u64 y.b, .int .i64 y.key, .int .i64 y.val, .int .i64 y.lo, .int .i64 y.hi, .int .i64 y.n, .bool y.flag, .string y.name, .slice ab y.lb cb, .slice ae y.le ce, .slice ac y.lc cc] 66) rfl
  refine Ze8 ?_
  as_aux_lemma =>
  refine Zfa ?_
  refine ⟨[.agg #[.int .i64 y.code, .int .u64 0, .int .u64 y.b, .int .i64 y.key, .int .i64 y.val, .int .i64 y.lo, .int .i64 y.hi, .int .i64 y.n, .bool y.flag, .string y.name, .slice ab y.lb cb, .slice ae y.le ce, .slice ac y.lc cc]], ⟨⟨_, rfl, Z.lvF 0 rfl Zk⟩, trivial⟩, ?_⟩
  replace Z := (Z.sel 2 [] rfl)
  subst cd1; rw [Zd8]; exact ⟨_, _, _, _, _, _, rfl, Z⟩
 ·refine Ze7 <| WC.region <| Ze6 2 rfl <| Ze8 <| Zfe rfl (fun cd2 => ?_) (fun cd2 => ?_)
  ·refine WC.region <| Ze6 1 rfl <| Zfn rfl rfl rfl 1 Z rfl rfl rfl rfl rfl rfl (fun w Z => ?_)
   replace Z : St g (Zd b2 #[.int .i64 0, .int .u64 0, .int .u64 0, .int .i64 0, .int .i64 0, .int .i64 0, .int .i64 0, .int .i64 0, .bool false, .string ⟨#[]⟩, .slice none 0 0, .slice none 0 0, .slice none 0 0] 66 :: Zd b1 #[.int .i64 y.code, .int .u64 y.a, .int .u64 0, .int .i64 y.key, .int .i64 y.val, .int .i64 y.lo, .int .i64 y.hi, .int .i64 y.n, .bool y.flag, .string y.name, .slice ab y.lb cb, .slice ae y.le ce, .slice ac y.lc cc] 66 :: L) w := Z
   refine Ze8 ?_
   as_aux_lemma =>
   refine Ze7 <| WC.region <| Zfy rfl rfl 1 Z rfl rfl Zk <| Zfu rfl rfl rfl 0 Z rfl rfl rfl rfl rfl Zk (fun w Z => ?_)
   replace Z := Z.n2 L (a0 := Zd b2 #[.int .i64 y.code, .int .u64 y.a, .int .u64 0, .int .i64 y.key, .int .i64 y.val, .int .i64 y.lo, .int .i64 y.hi, .int .i64 y.n, .bool y.flag, .string y.name, .slice ab y.lb cb, .slice ae y.le ce, .slice ac y.lc cc] 66) rfl
   refine Ze8 <| Zfa ?_
   refine ⟨[.agg #[.int .i64 y.code, .int .u64 y.a, .int .u64 0, .int .i64 y.key, .int .i64 y.val, .int .i64 y.lo, .int .i64 y.hi, .int .i64 y.n, .bool y.flag, .string y.name, .slice ab y.lb cb, .slice ae y.le ce, .slice ac y.lc cc]], ⟨⟨_, rfl, Z.lvF 0 rfl Zk⟩, trivial⟩, ?_⟩
   replace Z := (Z.sel 2 [] rfl)
   subst cd2; rw [Zeg]; exact ⟨_, _, _, _, _, _, rfl, Z⟩
  ·refine Ze7 <| WC.region <| Ze6 2 rfl <| Ze8 ?_
   as_aux_lemma =>
   refine Zfe rfl (fun cd3 => ?_) (fun cd3 => ?_)
   ·refine WC.region <| Ze6 1 rfl <| Zfn rfl rfl rfl 1 Z rfl rfl rfl rfl rfl rfl (fun w Z => ?_)
    replace Z : St g (Zd b2 #[.int .i64 0, .int .u64 0, .int .u64 0, .int .i64 0, .int .i64 0, .int .i64 0, .int .i64 0, .int .i64 0, .bool false, .string ⟨#[]⟩, .slice none 0 0, .slice none 0 0, .slice none 0 0] 66 :: Zd b1 #[.int .i64 y.code, .int .u64 y.a, .int .u64 y.b, .int .i64 0, .int .i64 y.val, .int .i64 y.lo, .int .i64 y.hi, .int .i64 y.n, .bool y.flag, .string y.name, .slice ab y.lb cb, .slice ae y.le ce, .slice ac y.lc cc] 66 :: L) w := Z
    refine Ze8 <| Ze7 <| WC.region <| Zfy rfl rfl 1 Z rfl rfl Zk <| Zfu rfl rfl rfl 0 Z rfl rfl rfl rfl rfl Zk (fun w Z => ?_)
    replace Z := Z.n2 L (a0 := Zd b2 #[.int .i64 y.code, .int .u64 y.a, .int .u64 y.b, .int .i64 0, .int .i64 y.val, .int .i64 y.lo, .int .i64 y.hi, .int .i64 y.n, .bool y.flag, .string y.name, .slice ab y.lb cb, .slice ae y.le ce, .slice ac y.lc cc] 66) rfl
    refine Ze8 <| Zfa ?_
    refine ⟨[.agg #[.int .i64 y.code, .int .u64 y.a, .int .u64 y.b, .int .i64 0, .int .i64 y.val, .int .i64 y.lo, .int .i64 y.hi, .int .i64 y.n, .bool y.flag, .string y.name, .slice ab y.lb cb, .slice ae y.le ce, .slice ac y.lc cc]], ⟨⟨_, rfl, Z.lvF 0 rfl Zk⟩, trivial⟩, ?_⟩
    replace Z := (Z.sel 2 [] rfl)
    subst cd3; rw [Zc1]; exact ⟨_, _, _, _, _, _, rfl, Z⟩
   ·refine Ze7 <| WC.region <| Ze6 2 rfl <| Ze8 <| Zfe rfl (fun cd4 => ?_) (fun cd4 => ?_)
    ·refine WC.region <| Ze6 1 rfl <| Zfn rfl rfl rfl 1 Z rfl rfl rfl rfl rfl rfl (fun w Z => ?_)
     replace Z : St g (Zd b2 #[.int .i64 0, .int .u64 0, .int .u64 0, .int .i64 0, .int .i64 0, .int .i64 0, .int .i64 0, .int .i64 0, .bool false, .string ⟨#[]⟩, .slice none 0 0, .slice none 0 0, .slice none 0 0] 66 :: Zd b1 #[.int .i64 y.code, .int .u64 y.a, .int .u64 y.b, .int .i64 y.key, .int .i64 0, .int .i64 y.lo, .int .i64 y.hi, .int .i64 y.n, .bool y.flag, .string y.name, .slice ab y.lb cb, .slice ae y.le ce, .slice ac y.lc cc] 66 :: L) w := Z
     refine Ze8 <| Ze7 <| WC.region <| Zfy rfl rfl 1 Z rfl rfl Zk <| Zfu rfl rfl rfl 0 Z rfl rfl rfl rfl rfl Zk (fun w Z => ?_)
     replace Z := Z.n2 L (a0 := Zd b2 #[.int .i64 y.code, .int .u64 y.a, .int .u64 y.b, .int .i64 y.key, .int .i64 0, .int .i64 y.lo, .int .i64 y.hi, .int .i64 y.n, .bool y.flag, .string y.name, .slice ab y.lb cb, .slice ae y.le ce, .slice ac y.lc cc] 66) rfl
     refine Ze8 <| Zfa ?_
     refine ⟨[.agg #[.int .i64 y.code, .int .u64 y.a, .int .u64 y.b, .int .i64 y.key, .int .i64 0, .int .i64 y.lo, .int .i64 y.hi, .int .i64 y.n, .bool y.flag, .string y.name, .slice ab y.lb cb, .slice ae y.le ce, .slice ac y.lc cc]], ⟨⟨_, rfl, Z.lvF 0 rfl Zk⟩, trivial⟩, ?_⟩
     replace Z := (Z.sel 2 [] rfl)
     subst cd4; rw [Zef]; exact ⟨_, _, _, _, _, _, rfl, Z⟩
    ·refine Ze7 <| WC.region <| Ze6 2 rfl <| Ze8 <| Zfe rfl (fun cd5 => ?_) (fun cd5 => ?_)
     ·refine WC.region <| Ze6 1 rfl <| Zfn rfl rfl rfl 1 Z rfl rfl rfl rfl rfl rfl (fun w Z => ?_)
      replace Z : St g (Zd b2 #[.int .i64 0, .int .u64 0, .int .u64 0, .int .i64 0, .int .i64 0, .int .i64 0, .int .i64 0, .int .i64 0, .bool false, .string ⟨#[]⟩, .slice none 0 0, .slice none 0 0, .slice none 0 0] 66 :: Zd b1 #[.int .i64 y.code, .int .u64 y.a, .int .u64 y.b, .int .i64 y.key, .int .i64 y.val, .int .i64 0, .int .i64 y.hi, .int .i64 y.n, .bool y.flag, .string y.name, .slice ab y.lb cb, .slice ae y.le ce, .slice ac y.lc cc] 66 :: L) w := Z
      refine Ze8 <| Ze7 <| WC.region <| Zfy rfl rfl 1 Z rfl rfl Zk <| Zfu rfl rfl rfl 0 Z rfl rfl rfl rfl rfl Zk (fun w Z => ?_)
      replace Z := Z.n2 L (a0 := Zd b2 #[.int .i64 y.code, .int .u64 y.a, .int .u64 y.b, .int .i64 y.key, .int .i64 y.val, .int .i64 0, .int .i64 y.hi, .int .i64 y.n, .bool y.flag, .string y.name, .slice ab y.lb cb, .slice ae y.le ce, .slice ac y.lc cc] 66) rfl
      refine Ze8 <| Zfa ?_
      refine ⟨[.agg #[.int .i64 y.code, .int .u64 y.a, .int .u64 y.b, .int .i64 y.key, .int .i64 y.val, .int .i64 0, .int .i64 y.hi, .int .i64 y.n, .bool y.flag, .string y.name, .slice ab y.lb cb, .slice ae y.le ce, .slice ac y.lc cc]], ⟨⟨_, rfl, Z.lvF 0 rfl Zk⟩, trivial⟩, ?_⟩
      replace Z := (Z.sel 2 [] rfl)
      subst cd5; rw [Zej]; exact ⟨_, _, _, _, _, _, rfl, Z⟩
     ·refine Ze7 <| WC.region <| Ze6 2 rfl <| Ze8 <| Zfe rfl (fun cd6 => ?_) (fun cd6 => ?_)
      ·refine WC.region <| Ze6 1 rfl <| Zfn rfl rfl rfl 1 Z rfl rfl rfl rfl rfl rfl (fun w Z => ?_)
       replace Z : St g (Zd b2 #[.int .i64 0, .int .u64 0, .int .u64 0, .int .i64 0, .int .i64 0, .int .i64 0, .int .i64 0, .int .i64 0, .bool false, .string ⟨#[]⟩, .slice none 0 0, .slice none 0 0, .slice none 0 0] 66 :: Zd b1 #[.int .i64 y.code, .int .u64 y.a, .int .u64 y.b, .int .i64 y.key, .int .i64 y.val, .int .i64 y.lo, .int .i64 0, .int .i64 y.n, .bool y.flag, .string y.name, .slice ab y.lb cb, .slice ae y.le ce, .slice ac y.lc cc] 66 :: L) w := Z
       refine Ze8 <| Ze7 <| WC.region <| Zfy rfl rfl 1 Z rfl rfl Zk <| Zfu rfl rfl rfl 0 Z rfl rfl rfl rfl rfl Zk (fun w Z => ?_)
       replace Z := Z.n2 L (a0 := Zd b2 #[.int .i64 y.code, .int .u64 y.a, .int .u64 y.b, .int .i64 y.key, .int .i64 y.val, .int .i64 y.lo, .int .i64 0, .int .i64 y.n, .bool y.flag, .string y.name, .slice ab y.lb cb, .slice ae y.le ce, .slice ac y.lc cc] 66) rfl
       refine Ze8 ?_
       as_aux_lemma =>
       refine Zfa ?_
       refine ⟨[.agg #[.int .i64 y.code, .int .u64 y.a, .int .u64 y.b, .int .i64 y.key, .int .i64 y.val, .int .i64 y.lo, .int .i64 0, .int .i64 y.n, .bool y.flag, .string y.name, .slice ab y.lb cb, .slice ae y.le ce, .slice ac y.lc cc]], ⟨⟨_, rfl, Z.lvF 0 rfl Zk⟩, trivial⟩, ?_⟩
       replace Z := (Z.sel 2 [] rfl)
       subst cd6; rw [Zde]; exact ⟨_, _, _, _, _, _, rfl, Z⟩
      ·refine Ze7 <| WC.region <| Ze6 2 rfl <| Ze8 <| Zfe rfl (fun cd7 => ?_) (fun cd7 => ?_)
       ·refine WC.region <| Ze6 1 rfl <| Zfn rfl rfl rfl 1 Z rfl rfl rfl rfl rfl rfl (fun w Z => ?_)
        replace Z : St g (Zd b2 #[.int .i64 0, .int .u64 0, .int .u64 0, .int .i64 0, .int .i64 0, .int .i64 0, .int .i64 0, .int .i64 0, .bool false, .string ⟨#[]⟩, .slice none 0 0, .slice none 0 0, .slice none 0 0] 66 :: Zd b1 #[.int .i64 y.code, .int .u64 y.a, .int .u64 y.b, .int .i64 y.key, .int .i64 y.val, .int .i64 y.lo, .int .i64 y.hi, .int .i64 0, .bool y.flag, .string y.name, .slice ab y.lb cb, .slice ae y.le ce, .slice ac y.lc cc] 66 :: L) w := Z
        refine Ze8 ?_
        as_aux_lemma =>
        refine Ze7 <| WC.region <| Zfy rfl rfl 1 Z rfl rfl Zk <| Zfu rfl rfl rfl 0 Z rfl rfl rfl rfl rfl Zk (fun w Z => ?_)
        replace Z := Z.n2 L (a0 := Zd b2 #[.int .i64 y.code, .int .u64 y.a, .int .u64 y.b, .int .i64 y.key, .int .i64 y.val, .int .i64 y.lo, .int .i64 y.hi, .int .i64 0, .bool y.flag, .string y.name, .slice ab y.lb cb, .slice ae y.le ce, .slice ac y.lc cc] 66) rfl
        refine Ze8 <| Zfa ?_
        refine ⟨[.agg #[.int .i64 y.code, .int .u64 y.a, .int .u64 y.b, .int .i64 y.key, .int .i64 y.val, .int .i64 y.lo, .int .i64 y.hi, .int .i64 0, .bool y.flag, .string y.name, .slice ab y.lb cb, .slice ae y.le ce, .slice ac y.lc cc]], ⟨⟨_, rfl, Z.lvF 0 rfl Zk⟩, trivial⟩, ?_⟩
        replace Z := (Z.sel 2 [] rfl)
        subst cd7; rw [Zc7]; exact ⟨_, _, _, _, _, _, rfl, Z⟩
       ·refine Ze7 <| WC.region <| Ze6 2 rfl <| Ze8 ?_
        as_aux_lemma =>
        refine Zfe rfl (fun cd8 => ?_) (fun cd8 => ?_)
        ·refine WC.region <| Ze6 1 rfl <| Zfn rfl rfl rfl 1 Z rfl rfl rfl rfl rfl rfl (fun w Z => ?_)
         replace Z : St g (Zd b2 #[.int .i64 0, .int .u64 0, .int .u64 0, .int .i64 0, .int .i64 0, .int .i64 0, .int .i64 0, .int .i64 0, .bool false, .string ⟨#[]⟩, .slice none 0 0, .slice none 0 0, .slice none 0 0] 66 :: Zd b1 #[.int .i64 y.code, .int .u64 y.a, .int .u64 y.b, .int .i64 y.key, .int .i64 y.val, .int .i64 y.lo, .int .i64 y.hi, .int .i64 y.n, .bool false, .string y.name, .slice ab y.lb cb, .slice ae y.le ce, .slice ac y.lc cc] 66 :: L) w := Z
         refine Ze8 <| Ze7 <| WC.region <| Zfy rfl rfl 1 Z rfl rfl Zk <| Zfu rfl rfl rfl 0 Z rfl rfl rfl rfl rfl Zk (fun w Z => ?_)
         replace Z := Z.n2 L (a0 := Zd b2 #[.int .i64 y.code, .int .u64 y.a, .int .u64 y.b, .int .i64 y.key, .int .i64 y.val, .int .i64 y.lo, .int .i64 y.hi, .int .i64 y.n, .bool false, .string y.name, .slice ab y.lb cb, .slice ae y.le ce, .slice ac y.lc cc] 66) rfl
         refine Ze8 <| Zfa ?_
         refine ⟨[.agg #[.int .i64 y.code, .int .u64 y.a, .int .u64 y.b, .int .i64 y.key, .int .i64 y.val, .int .i64 y.lo, .int .i64 y.hi, .int .i64 y.n, .bool false, .string y.name, .slice ab y.lb cb, .slice ae y.le ce, .slice ac y.lc cc]], ⟨⟨_, rfl, Z.lvF 0 rfl Zk⟩, trivial⟩, ?_⟩
         replace Z := (Z.sel 2 [] rfl)
         subst cd8; rw [Zd3]; exact ⟨_, _, _, _, _, _, rfl, Z⟩
        ·refine Ze7 <| WC.region <| Ze6 2 rfl <| Ze8 <| Zfe rfl (fun cd9 => ?_) (fun cd9 => ?_)
         ·refine WC.region <| Ze6 1 rfl <| Zfn rfl rfl rfl 1 Z rfl rfl rfl rfl rfl rfl (fun w Z => ?_)
          replace Z : St g (Zd b2 #[.int .i64 0, .int .u64 0, .int .u64 0, .int .i64 0, .int .i64 0, .int .i64 0, .int .i64 0, .int .i64 0, .bool false, .string ⟨#[]⟩, .slice none 0 0, .slice none 0 0, .slice none 0 0] 66 :: Zd b1 #[.int .i64 y.code, .int .u64 y.a, .int .u64 y.b, .int .i64 y.key, .int .i64 y.val, .int .i64 y.lo, .int .i64 y.hi, .int .i64 y.n, .bool y.flag, .string ⟨#[]⟩, .slice ab y.lb cb, .slice ae y.le ce, .slice ac y.lc cc] 66 :: L) w := Z
          refine Ze8 <| Ze7 <| WC.region <| Zfy rfl rfl 1 Z rfl rfl Zk <| Zfu rfl rfl rfl 0 Z rfl rfl rfl rfl rfl Zk (fun w Z => ?_)
          replace Z := Z.n2 L (a0 := Zd b2 #[.int .i64 y.code, .int .u64 y.a, .int .u64 y.b, .int .i64 y.key, .int .i64 y.val, .int .i64 y.lo, .int .i64 y.hi, .int .i64 y.n, .bool y.flag, .string ⟨#[]⟩, .slice ab y.lb cb, .slice ae y.le ce, .slice ac y.lc cc] 66) rfl
          refine Ze8 <| Zfa ?_
          refine ⟨[.agg #[.int .i64 y.code, .int .u64 y.a, .int .u64 y.b, .int .i64 y.key, .int .i64 y.val, .int .i64 y.lo, .int .i64 y.hi, .int .i64 y.n, .bool y.flag, .string ⟨#[]⟩, .slice ab y.lb cb, .slice ae y.le ce, .slice ac y.lc cc]], ⟨⟨_, rfl, Z.lvF 0 rfl Zk⟩, trivial⟩, ?_⟩
          replace Z := (Z.sel 2 [] rfl)
          subst cd9; rw [Zeh]; exact ⟨_, _, _, _, _, _, rfl, Z⟩
         ·refine Ze7 <| WC.region <| Ze6 2 rfl <| Ze8 <| Zfe rfl (fun cd10 => ?_) (fun cd10 => ?_)
          ·refine WC.region <| Ze6 1 rfl <| Zfn rfl rfl rfl 1 Z rfl rfl rfl rfl rfl rfl (fun w Z => ?_)
           replace Z : St g (Zd b2 #[.int .i64 0, .int .u64 0, .int .u64 0, .int .i64 0, .int .i64 0, .int .i64 0, .int .i64 0, .int .i64 0, .bool false, .string ⟨#[]⟩, .slice none 0 0, .slice none 0 0, .slice none 0 0] 66 :: Zd b1 #[.int .i64 y.code, .int .u64 y.a, .int .u64 y.b, .int .i64 y.key, .int .i64 y.val, .int .i64 y.lo, .int .i64 y.hi, .int .i64 y.n, .bool y.flag, .string y.name, .slice none 0 0, .slice ae y.le ce, .slice ac y.lc cc] 66 :: L) w := Z
           refine Ze8 <| Ze7 <| WC.region <| Zfy rfl rfl 1 Z rfl rfl Zk <| Zfu rfl rfl rfl 0 Z rfl rfl rfl rfl rfl Zk (fun w Z => ?_)
           replace Z := Z.n2 L (a0 := Zd b2 #[.int .i64 y.code, .int .u64 y.a, .int .u64 y.b, .int .i64 y.key, .int .i64 y.val, .int .i64 y.lo, .int .i64 y.hi, .int .i64 y.n, .bool y.flag, .string y.name, .slice none 0 0, .slice ae y.le ce, .slice ac y.lc cc] 66) rfl
           refine Ze8 <| Zfa ?_
           refine ⟨[.agg #[.int .i64 y.code, .int .u64 y.a, .int .u64 y.b, .int .i64 y.key, .int .i64 y.val, .int .i64 y.lo, .int .i64 y.hi, .int .i64 y.n, .bool y.flag, .string y.name, .slice none 0 0, .slice ae y.le ce, .slice ac y.lc cc]], ⟨⟨_, rfl, Z.lvF 0 rfl Zk⟩, trivial⟩, ?_⟩
           replace Z := (Z.sel 2 [] rfl)
           subst cd10; rw [Zc3]; exact ⟨_, _, _, _, _, _, rfl, Z⟩
          ·refine Ze7 <| WC.region <| Ze6 2 rfl <| Ze8 <| Zfe rfl (fun cd11 => ?_) (fun cd11 => ?_)
           ·refine WC.region <| Ze6 1 rfl <| Zfn rfl rfl rfl 1 Z rfl rfl rfl rfl rfl rfl (fun w Z => ?_)
            replace Z : St g (Zd b2 #[.int .i64 0, .int .u64 0, .int .u64 0, .int .i64 0, .int .i64 0, .int .i64 0, .int .i64 0, .int .i64 0, .bool false, .string ⟨#[]⟩, .slice none 0 0, .slice none 0 0, .slice none 0 0] 66 :: Zd b1 #[.int .i64 y.code, .int .u64 y.a, .int .u64 y.b, .int .i64 y.key, .int .i64 y.val, .int .i64 y.lo, .int .i64 y.hi, .int .i64 y.n, .bool y.flag, .string y.name, .slice ab y.lb cb, .slice none 0 0, .slice ac y.lc cc] 66 :: L) w := Z
            refine Ze8 <| Ze7 <| WC.region <| Zfy rfl rfl 1 Z rfl rfl Zk <| Zfu rfl rfl rfl 0 Z rfl rfl rfl rfl rfl Zk (fun w Z => ?_)
            replace Z := Z.n2 L (a0 := Zd b2 #[.int .i64 y.code, .int .u64 y.a, .int .u64 y.b, .int .i64 y.key, .int .i64 y.val, .int .i64 y.lo, .int .i64 y.hi, .int .i64 y.n, .bool y.flag, .string y.name, .slice ab y.lb cb, .slice none 0 0, .slice ac y.lc cc] 66) rfl
            refine Ze8 ?_
            as_aux_lemma =>
            refine Zfa ?_
            refine ⟨[.agg #[.int .i64 y.code, .int .u64 y.a, .int .u64 y.b, .int .i64 y.key, .int .i64 y.val, .int .i64 y.lo, .int .i64 y.hi, .int .i64 y.n, .bool y.flag, .string y.name, .slice ab y.lb cb, .slice none 0 0, .slice ac y.lc cc]], ⟨⟨_, rfl, Z.lvF 0 rfl Zk⟩, trivial⟩, ?_⟩
            replace Z := (Z.sel 2 [] rfl)
            subst cd11; rw [Zec]; exact ⟨_, _, _, _, _, _, rfl, Z⟩
           ·refine Ze7 <| WC.region <| Ze6 2 rfl <| Ze8 <| Zfe rfl (fun cd12 => ?_) (fun cd12 => ?_)
            ·refine WC.region <| Ze6 1 rfl <| Zfn rfl rfl rfl 1 Z rfl rfl rfl rfl rfl rfl (fun w Z => ?_)
             replace Z : St g (Zd b2 #[.int .i64 0, .int .u64 0, .int .u64 0, .int .i64 0, .int .i64 0, .int .i64 0, .int .i64 0, .int .i64 0, .bool false, .string ⟨#[]⟩, .slice none 0 0, .slice none 0 0, .slice none 0 0] 66 :: Zd b1 #[.int .i64 y.code, .int .u64 y.a, .int .u64 y.b, .int .i64 y.key, .int .i64 y.val, .int .i64 y.lo, .int .i64 y.hi, .int .i64 y.n, .bool y.flag, .string y.name, .slice ab y.lb cb, .slice ae y.le ce, .slice none 0 0] 66 :: L) w := Z
             refine Ze8 ?_
             as_aux_lemma =>
             refine Ze7 <| WC.region <| Zfy rfl rfl 1 Z rfl rfl Zk <| Zfu rfl rfl rfl 0 Z rfl rfl rfl rfl rfl Zk (fun w Z => ?_)
             replace Z := Z.n2 L (a0 := Zd b2 #[.int .i64 y.code, .int .u64 y.a, .int .u64 y.b, .int .i64 y.key, .int .i64 y.val, .int .i64 y.lo, .int .i64 y.hi, .int .i64 y.n, .bool y.flag, .string y.name, .slice ab y.lb cb, .slice ae y.le ce, .slice none 0 0] 66) rfl
             refine Ze8 <| Zfa ?_
             refine ⟨[.agg #[.int .i64 y.code, .int .u64 y.a, .int .u64 y.b, .int .i64 y.key, .int .i64 y.val, .int .i64 y.lo, .int .i64 y.hi, .int .i64 y.n, .bool y.flag, .string y.name, .slice ab y.lb cb, .slice ae y.le ce, .slice none 0 0]], ⟨⟨_, rfl, Z.lvF 0 rfl Zk⟩, trivial⟩, ?_⟩
             replace Z := (Z.sel 2 [] rfl)
             subst cd12; rw [Zdl]; exact ⟨_, _, _, _, _, _, rfl, Z⟩
            ·refine Zfc <| Ze7 <| WC.region <| Zfy rfl rfl 1 Z rfl rfl Zk <| Zfu rfl rfl rfl 0 Z rfl rfl rfl rfl rfl Zk (fun w Z => ?_)
             replace Z : St g (Zd b2 #[.int .i64 y.code, .int .u64 y.a, .int .u64 y.b, .int .i64 y.key, .int .i64 y.val, .int .i64 y.lo, .int .i64 y.hi, .int .i64 y.n, .bool y.flag, .string y.name, .slice ab y.lb cb, .slice ae y.le ce, .slice ac y.lc cc] 66 :: Zd b1 #[.int .i64 y.code, .int .u64 y.a, .int .u64 y.b, .int .i64 y.key, .int .i64 y.val, .int .i64 y.lo, .int .i64 y.hi, .int .i64 y.n, .bool y.flag, .string y.name, .slice ab y.lb cb, .slice ae y.le ce, .slice ac y.lc cc] 66 :: L) w := Z
             refine Ze8 ?_
             as_aux_lemma =>
             refine Zfa ?_
             refine ⟨[.agg #[.int .i64 y.code, .int .u64 y.a, .int .u64 y.b, .int .i64 y.key, .int .i64 y.val, .int .i64 y.lo, .int .i64 y.hi, .int .i64 y.n, .bool y.flag, .string y.name, .slice ab y.lb cb, .slice ae y.le ce, .slice ac y.lc cc]], ⟨⟨_, rfl, Z.lvF 0 rfl Zk⟩, trivial⟩, ?_⟩
             replace Z := (Z.sel 2 [] rfl)
             rw [Z4 (by unfold Xg; omega)]; exact ⟨_, _, _, _, _, _, rfl, Z⟩
theorem DX (xs ys : List Int) (a b : Option Addr) (c d : Nat) (hx : xs.length + ys.length ≤ 1000000) (Z : St g (Sh 5 1 (Za xs) a c :: Sh 5 1 (Za ys) b d :: L) w) :
  Sp Tryz.prog 33 [.slice a (Za xs).length c, .slice b (Za ys).length d] w (fun v w' => ∃ (a2 : Option Addr) (c2 : Nat), v = .slice a2 (Za (xs ++ ys)).length c2 ∧ St g (Ze 5 1 (Za (xs ++ ys)) a2 c2 :: Sh 5 1 (Za xs) a c :: Sh 5 1 (Za ys) b d :: L) w') := by
 refine Sp.enter Tryz.func33 rfl (by kernel_rfl) (by kernel_rfl) ?_
 refine Ze7 <| WC.region <| Ze6 1 rfl <| Ze8 <| Ze7 <| WC.region ?_
 have h1 := Zf xs; have h2 := Zf ys
 refine Ze6 5 rfl <| Zfi 9 rfl (ZF (by omega)) ?_
 refine Zga rfl rfl (v := 0) (v' := (List.length (Za xs) : Int) + (List.length (Za ys) : Int)) (0) (xs.length + ys.length) el_33 Z rfl (by omega) rfl (by omega) (by omega) (Rm.of (by omega) (by decide)) (fun b1 w Z => ?_)
 replace Z := Z.n3 L (a0 := Ze 5 1 [] (some ⟨b1, 0, none⟩) ((List.length xs) + (List.length ys))) rfl
 refine Ze6 1 rfl <| Zfz rfl rfl 0 (Za xs) el_33 Z rfl (Z.srcS 1 rfl) (List.nil_append _) (Rm.of (by first | omega | (simp <;> omega)) (by decide)) rfl rfl (fun a1 c1 w Z => ?_)
 replace Z := Z.n3 L (a0 := Ze 5 1 (Za xs) a1 c1) rfl
 refine Ze6 1 rfl <| Zfz rfl rfl 0 (Za (xs ++ ys)) el_33 Z rfl (Z.srcS 2 rfl) (Z0 _ _).symm (Rm.of (by first | omega | (simp <;> omega)) (by decide)) rfl rfl (fun a2 c2 w Z => ?_)
 replace Z := Z.n3 L (a0 := Ze 5 1 (Za (xs ++ ys)) a2 c2) rfl
 refine Ze6 1 rfl <| Ze8 <| Zfa ?_
 refine ⟨[.slice a2 (Za (xs ++ ys)).length c2], rfl, ?_⟩
 exact ⟨_, _, rfl, Z⟩
end Go.Proofs.YtlifpobidhfbfaaGreatDoor
namespace Go.Proofs.YtlifpobidhfbfaaGreatDoor
open Go Go.V
variable {g w : World} {L : List HP}
theorem HC (x : OpM) (ab ae ac : Option Addr) (cb ce cc : Nat) (Z : St g (Sh 88 4 (Zn x.chs) ac cc :: L) w) :
  Sp Tryz.prog 48 [.agg #[.int .i64 x.code, .int .u64 x.a, .int .u64 x.b, .int .i64 x.key, .int .i64 x.val, .int .i64 x.lo, .int .i64 x.hi, .int .i64 x.n, .bool x.flag, .string x.name, .slice ab (Za x.bytes).length cb, .slice ae (Zo x.ents).length ce, .slice ac (Zn x.chs).length cc]] w (fun v w' => ∃ (ok : Bool), v = .bool ok ∧ St g (Sh 88 4 (Zn x.chs) ac cc :: L) w' ∧ (ok = true ↔ okOp x)) := by
 refine Sp.enter Tryz.func48 rfl (by kernel_rfl) (by kernel_rfl) ?_
 refine Ze7 <| WC.region <| Zf0 rfl rfl #[.int .i64 x.code, .int .u64 x.a, .int .u64 x.b, .int .i64 x.key, .int .i64 x.val, .int .i64 x.lo, .int .i64 x.hi, .int .i64 x.n, .bool x.flag, .string x.name, .slice ab (Za x.bytes).length cb, .slice ae (Zo x.ents).length ce, .slice ac (Zn x.chs).length cc] Z rfl rfl (fun b1 w Z => ?_)
 refine Ze6 1 rfl <| Ze8 <| Ze7 <| WC.region <| Zfd 2 [.int .i64 x.code] rfl (by exact Z.ld 0 rfl rfl) ?_
 refine Zfb rfl rfl (UB x.code Z) rfl ?_
 clear Z; rintro _ w ⟨rfl, Z⟩
 replace Z := Z.n2 L rfl
 refine Ze6 5 rfl <| Ze8 <| Ze7 <| Ze7 <| WC.region <| Ze6 2 rfl <| Zge 34 [.int .i64 x.n, .int .i64 x.n, .string x.name, .slice ab (Za x.bytes).length cb, .slice ae (Zo x.ents).length ce, .slice ac (Zn x.chs).length cc] rfl (by exact ⟨fun _ => Z.ld 0 rfl rfl, fun _ => Z.ld 0 rfl rfl, fun _ => Z.ld 0 rfl rfl, fun _ => Z.ld 0 rfl rfl, fun _ => Z.ld 0 rfl rfl, fun _ => Z.ld 0 rfl rfl⟩) (fun j => ?_)
 refine Zf4 52 rfl (Uw (Uw (Uw (Uw (Uw (Uw (Zbx (dv _)) (dd _)) (dd _)) (dd _)) (dd _)) (dd _)) (dd _)) <| Ze8 <| Zfe rfl (fun cd1 => ?_) (fun cd1 => ?_)
 ·refine Ze7 <| WC.region ?_
  have hl4 := Z9 x.chs; have hl2 := Z_ x.ents; have hl1 := Zf x.bytes
  refine Ze6 1 rfl <| Ze8 ?_
  as_aux_lemma =>
  refine Zfa ?_
  refine ⟨[.bool false], rfl, ?_⟩
  replace Z := (Z.sel 1 [] rfl)
  refine ⟨_, rfl, Z, ⟨fun h => (by cases h), fun h => ?_⟩⟩
  obtain ⟨h1, ⟨h2, h3, h4, h5, h6⟩, _⟩ := h
  rcases cd1 with ((((((c | c) | c) | c) | c) | c) | c)
  ·exact absurd h1 c
  all_goals omega
 ·refine Zfc <| Ze7 <| Ze7 <| WC.region ?_
  have hl4 := Z9 x.chs; have hl2 := Z_ x.ents; have hl1 := Zf x.bytes
  refine Zfd 4 [.slice ac (Zn x.chs).length cc] rfl (by exact Z.ld 0 rfl rfl) ?_
  refine Ze8 ?_
  as_aux_lemma =>
  refine Zfj <| Zft [1, 3, 54, 55, 56] (fun kM vs w => ∃ (k : Nat), vs = [.pointer (some ⟨b1, 0, none⟩), .string (Y_ (fs x.code)), .slice ac (Zn x.chs).length cc, .int .i64 (List.length (Zn x.chs) : Int), .int .i64 (k : Int)] ∧ St g (Zd b1 #[.int .i64 x.code, .int .u64 x.a, .int .u64 x.b, .int .i64 x.key, .int .i64 x.val, .int .i64 x.lo, .int .i64 x.hi, .int .i64 x.n, .bool x.flag, .string x.name, .slice ab (Za x.bytes).length cb, .slice ae (Zo x.ents).length ce, .slice ac (Zn x.chs).length cc] 66 :: Sh 88 4 (Zn x.chs) ac cc :: L) w ∧ (k ≤ x.chs.length) ∧ (∀ y ∈ x.chs.take k, 0 ≤ y.1 ∧ y.1 ≤ 255) ∧ (x.chs.length - k) = kM) ((List.length x.chs) - 0) ⟨0, rfl, Z, (Nat.zero_le _), (fun _ h => by cases h), rfl⟩ ?_
  clear Z; rintro _ _ w j ⟨k, rfl, Z, hk, hall, rfl⟩
  refine Ze7 <| WC.region ?_
  have hl4 := Z9 x.chs; have hl2 := Z_ x.ents; have hl1 := Zf x.bytes
  refine Ze6 1 rfl <| Ze8 <| Ze7 <| Zfe rfl (fun cd2 => ?_) (fun cd2 => ?_)
  ·refine Zfc <| Ze7 <| Zfj <| Ze7 <| WC.region ?_
   obtain ⟨y, hy⟩ : ∃ y, x.chs[k]? = some y := ⟨_, List.getElem?_eq_getElem (by omega)⟩
   refine Zfw rfl rfl (i := (k : Int)) (k) el_31 rfl rfl (by omega) (Zt (Zp hy)) (Z.rdS 1 rfl (Zp hy)).1 ?_
   refine Zf9 rfl rfl [.int .i64 y.1, .int .i64 y.2.1, .int .i64 y.2.2.1, .int .i64 y.2.2.2] Jt rfl (Z.rdS 1 rfl (Zp hy)).2 <| Zf5 rfl rfl HR Z (fun b2 w Z => ?_)
   refine Zfu rfl rfl rfl 0 Z rfl rfl rfl rfl rfl Jt (fun w Z => ?_)
   replace Z := Z.n3 L (a0 := Zd b2 #[.int .i64 y.1, .int .i64 y.2.1, .int .i64 y.2.2.1, .int .i64 y.2.2.2] 88) rfl
   refine Ze8 <| Ze7 <| WC.region <| Zfd 3 [.int .i64 y.1] rfl (by exact Z.ld 0 rfl rfl) ?_
   refine Zge 5 [.int .i64 y.1] rfl (by exact (fun _ => Z.ld 0 rfl rfl)) (fun j => ?_)
   refine Zf4 67 rfl (Uw (dd _) (dd _)) <| Ze8 ?_
   as_aux_lemma =>
   refine Zfe rfl (fun cd3 => ?_) (fun cd3 => ?_)
   ·refine Ze7 <| WC.region <| Ze6 1 rfl <| Ze8 <| Zfa ?_
    refine ⟨[.bool false], rfl, ?_⟩
    replace Z := (Z.sel 2 [] rfl)
    refine ⟨_, rfl, Z, ⟨fun h => (by cases h), fun h => ?_⟩⟩
    have := h.2.2.1 y (List.mem_of_getElem? hy); omega
   ·refine Zfc <| WC.region <| Ze6 1 rfl <| Zfi 68 rfl (ZF (by omega)) ?_
    refine Ze6 1 rfl <| Ze8 ?_
    exact ⟨_, by omega, k + 1, rfl, (Z.sel 1 [] rfl), (by omega), (fun z hz => by rw [List.take_add_one, hy] at hz; simp only [Option.toList, List.mem_append, List.mem_singleton] at hz; rcases hz with hz | rfl <;> first | exact hall z hz | omega), rfl⟩
  ·refine Zfv <| Ze7 <| WC.region <| Zfy rfl rfl 0 Z rfl rfl Zk <| Zf5 rfl rfl JK Z (fun b2 w Z => ?_)
   refine Zfu rfl rfl rfl 0 Z rfl rfl rfl rfl rfl Zk (fun w Z => ?_)
   replace Z := Z.n3 L (a0 := Zd b2 #[.int .i64 x.code, .int .u64 x.a, .int .u64 x.b, .int .i64 x.key, .int .i64 x.val, .int .i64 x.lo, .int .i64 x.hi, .int .i64 x.n, .bool x.flag, .string x.name, .slice ab (Za x.bytes).length cb, .slice ae (Zo x.ents).length ce, .slice ac (Zn x.chs).length cc] 66) rfl
   refine Ze8 <| Ze7 <| Ze7 <| WC.region ?_
   try simp only [not_or, Classical.not_not] at cd1
   refine Ze6 1 rfl <| Zgs rfl rfl rfl Z rfl (fun b3 w Z => ?_)
   replace Z := Z.n4 L (a0 := ZN b3 (.stringIter (Y_ (fs x.code)) 0)) rfl
   refine Ze8 ?_
   as_aux_lemma =>
   refine Zfj <| Zft [7, 71] (fun kM vs w => ∃ (k : Nat) (y : ZM) (zb ze zc : Option Addr) (yb ye yc : Nat), vs = [.pointer (some ⟨b2, 0, none⟩), .pointer (some ⟨b3, 0, none⟩)] ∧ St g (ZN b3 (.stringIter (Y_ (fs x.code)) k) :: Zd b2 #[.int .i64 y.code, .int .u64 y.a, .int .u64 y.b, .int .i64 y.key, .int .i64 y.val, .int .i64 y.lo, .int .i64 y.hi, .int .i64 y.n, .bool y.flag, .string y.name, .slice zb y.lb yb, .slice ze y.le ye, .slice zc y.lc yc] 66 :: Zd b1 #[.int .i64 x.code, .int .u64 x.a, .int .u64 x.b, .int .i64 x.key, .int .i64 x.val, .int .i64 x.lo, .int .i64 x.hi, .int .i64 x.n, .bool x.flag, .string x.name, .slice ab (Za x.bytes).length cb, .slice ae (Zo x.ents).length ce, .slice ac (Zn x.chs).length cc] 66 :: Sh 88 4 (Zn x.chs) ac cc :: L) w ∧ (ZC (fs x.code) (zOf x) = ZC ((fs x.code).drop k) y) ∧ ((fs x.code).length - k) = kM) ((fs x.code).length - 0) ⟨0, zOf x, _, _, _, _, _, _, rfl, Z, (rfl), rfl⟩ ?_
   clear Z; rintro _ _ w j ⟨k, y, zb, ze, zc, yb, ye, yc, rfl, Z, hr, rfl⟩
   refine Ze7 <| WC.region ?_
   try simp only [not_or, Classical.not_not] at cd1
   refine Zgt rfl rfl rfl rfl rfl rfl rfl 0 (fs_as _) Z rfl rfl (fun w Z => ?_)
   replace Z := Z.n4 L (a0 := ZN b3 (.stringIter (Y_ (fs x.code)) (if (k < (fs x.code).length) then (k + 1) else k))) rfl
   refine Ze8 <| Ze7 <| Zfe rfl (fun cd3 => ?_) (fun cd3 => ?_)
   ·refine Zgy 72 (.tuple #[.bool true, .int .i64 (k : Int), .int .i32 (List.getD (fs x.code) k 0)]) (Zcc cd3) ?_
    rw [if_pos cd3] at Z
    refine Zfc <| Zfj <| Ze7 <| WC.region <| Ze6 2 rfl <| Ze8 <| WC.region <| Zfy rfl rfl 1 Z rfl rfl Zk <| Ze6 1 rfl <| Zfb rfl rfl (Hi y zb ze zc yb ye yc (List.getD (fs x.code) k 0) Z) rfl ?_
    generalize hY1 : ZL (List.getD (fs x.code) k 0) y = Y1
    clear Z; rintro _ w ⟨ab1, ae1, ac1, cb1, ce1, cc1, rfl, Z⟩
    replace Z := Z.n4 L (a0 := ZN b3 (.stringIter (Y_ (fs x.code)) (k + 1))) rfl
    refine Zfu rfl rfl rfl 1 Z rfl rfl rfl rfl rfl Zk (fun w Z => ?_)
    replace Z := Z.n4 L (a1 := Zd b2 #[.int .i64 Y1.code, .int .u64 Y1.a, .int .u64 Y1.b, .int .i64 Y1.key, .int .i64 Y1.val, .int .i64 Y1.lo, .int .i64 Y1.hi, .int .i64 Y1.n, .bool Y1.flag, .string Y1.name, .slice ab1 Y1.lb cb1, .slice ae1 Y1.le ce1, .slice ac1 Y1.lc cc1] 66) rfl
    refine Ze8 ?_
    exact ⟨_, by omega, k + 1, Y1, _, _, _, _, _, _, rfl, Z, (by rw [hr, CK cd3, hY1]), rfl⟩
   ·rw [if_neg cd3] at Z
    refine Zfv <| Ze7 <| WC.region <| Zfd 3 [.int .u64 y.a] rfl (by exact Z.ld 1 rfl rfl) ?_
    refine Zge 31 [.int .u64 y.b, .int .i64 y.key, .int .i64 y.val, .int .i64 y.lo, .int .i64 y.hi, .int .i64 y.n] rfl (by exact ⟨fun _ => Z.ld 1 rfl rfl, fun _ => Z.ld 1 rfl rfl, fun _ => Z.ld 1 rfl rfl, fun _ => Z.ld 1 rfl rfl, fun _ => Z.ld 1 rfl rfl, fun _ => Z.ld 1 rfl rfl⟩) (fun j => ?_)
    refine Zf4 110 rfl (Ya (Ya (Ya (Ya (Ya (Ya (dd _) (dd _)) (dd _)) (dd _)) (dd _)) (dd _)) (dd _)) <| Ze8 <| Ze7 <| WC.region <| Ze6 1 rfl <| Zge 29 [.bool y.flag, .string y.name, .slice zb y.lb yb, .slice ze y.le ye, .slice zc y.lc yc] rfl (by exact ⟨fun _ => Z.ld 1 rfl rfl, fun _ => Z.ld 1 rfl rfl, fun _ => Z.ld 1 rfl rfl, fun _ => Z.ld 1 rfl rfl, fun _ => Z.ld 1 rfl rfl⟩) (fun j => ?_)
    refine Zf4 139 rfl (Ya (Ya (Ya (Ya (Ya (Ya (Ya (Ya (Ya (Ya (Ya (dd _) (dd _)) (dd _)) (dd _)) (dd _)) (dd _)) (dd _)) (Zbx (dv _))) (dd _)) (dd _)) (dd _)) (dd _)) <| Ze8 ?_
    as_aux_lemma =>
    refine Zfa ?_
    refine ⟨[.bool (bif (bif (bif (bif (bif (bif (bif (bif (bif (bif (bif (decide (y.a = 0)) then (decide (y.b = 0)) else false) then (decide (y.key = 0)) else false) then (decide (y.val = 0)) else false) then (decide (y.lo = 0)) else false) then (decide (y.hi = 0)) else false) then (decide (y.n = 0)) else false) then (! y.flag) else false) then (decide (y.name = ⟨#[]⟩)) else false) then (decide ((y.lb : Int) = 0)) else false) then (decide ((y.le : Int) = 0)) else false) then (decide ((y.lc : Int) = 0)) else false)], rfl, ?_⟩
    replace Z := (Z.sel 3 [] rfl)
    refine ⟨_, rfl, Z, ?_⟩
    simp only [Bool.cond_false_right, Bool.and_eq_true, decide_eq_true_eq, Bool.not_eq_true', and_assoc, nat0]
    rw [Cw (by rw [hr, D1 cd3])]
    refine ⟨fun h => ⟨?_, ⟨?_, ?_, ?_, ?_, ?_⟩, ?_, h⟩, fun h => h.2.2.2⟩
    ·exact cd1.1.1.1.1.1.1
    all_goals first | omega | skip
    rw [List.take_of_length_le (by omega)] at hall; exact hall
theorem XU (bs : List Int) (a : Option Addr) (c : Nat) (x : AnM) (ab ae ac ak : Option Addr) (cb ce cc ck : Nat) (hbs : bs.length ≤ 500000) (hw : AnW x) (Z : St g (Sh 5 1 (Za bs) a c :: Sh 5 1 (Za x.bytes) ab cb :: Sh 27 2 (Zo x.ents) ae ce :: Sh 88 4 (Zn x.chs) ac cc :: Sh 2 1 (Zb x.keys) ak ck :: L) w) :
  Sp Tryz.prog 13 [.slice a (Za bs).length c, .agg #[.int .i64 x.err, .int .u64 x.handle, .int .i64 x.value, .bool x.found, .int .i64 x.n, .int .i64 x.ekey, .int .i64 x.eval, .int .i64 x.count, .int .i64 x.sum, .int .i64 x.mn, .int .i64 x.mx, .slice ae (Zo x.ents).length ce, .slice ac (Zn x.chs).length cc, .slice ak (Zb x.keys).length ck, .slice ab (Za x.bytes).length cb]] w (fun v w' => ∃ (a2 : Option Addr) (c2 : Nat), v = .slice a2 (Za (bs ++ YJ x)).length c2 ∧ St g (Ze 5 1 (Za (bs ++ YJ x)) a2 c2 :: Sh 5 1 (Za bs) a c :: Sh 5 1 (Za x.bytes) ab cb :: Sh 27 2 (Zo x.ents) ae ce :: Sh 88 4 (Zn x.chs) ac cc :: Sh 2 1 (Zb x.keys) ak ck :: L) w') := by
 refine Sp.enter Tryz.func13 rfl (by kernel_rfl) (by kernel_rfl) ?_
 refine Ze7 <| WC.region <| Zf0 rfl rfl #[.int .i64 x.err, .int .u64 x.handle, .int .i64 x.value, .bool x.found, .int .i64 x.n, .int .i64 x.ekey, .int .i64 x.eval, .int .i64 x.count, .int .i64 x.sum, .int .i64 x.mn, .int .i64 x.mx, .slice ae (Zo x.ents).length ce, .slice ac (Zn x.chs).length cc, .slice ak (Zb x.keys).length ck, .slice ab (Za x.bytes).length cb] Z rfl rfl (fun b1 w Z => ?_)
 refine Ze6 1 rfl <| Ze8 <| Ze7 <| WC.region ?_
 obtain ⟨w1, w2, w3, w5, w6, w7, w8, w9, w10, w11, w12, w13, w14, l1, l2, l3, l4⟩ := hw
 have hl4 := Z9 x.chs; have hl2 := Z_ x.ents; have hl1 := Zf x.bytes; have hl3 := Zh x.keys
 refine Zf7 rfl rfl (cs := [.slice none 0 0]) zv_70 rfl rfl <| Zf0 rfl rfl #[.slice none 0 0] Z rfl rfl (fun b2 w Z => ?_)
 refine Ze6 1 rfl <| Ze8 <| Ze7 <| WC.region <| Zfd 4 [.int .i64 x.err] rfl (by exact Z.ld 1 rfl rfl) ?_
 refine Zfm 13 (.int .u64 (x.err % 18446744073709551616)) (congrArg (Value.int .u64) (by rfl)) ?_
 replace Z := Z.nil_ 5 1
 replace Z := Z.n8 L (a0 := Ze 5 1 (Za []) none 0) (a1 := Zd b2 #[.slice none 0 0] 70) (a2 := Zd b1 #[.int .i64 x.err, .int .u64 x.handle, .int .i64 x.value, .bool x.found, .int .i64 x.n, .int .i64 x.ekey, .int .i64 x.eval, .int .i64 x.count, .int .i64 x.sum, .int .i64 x.mn, .int .i64 x.mx, .slice ae (Zo x.ents).length ce, .slice ac (Zn x.chs).length cc, .slice ak (Zb x.keys).length ck, .slice ab (Za x.bytes).length cb] 35) rfl
 refine Zfb rfl rfl (ZS _ [] _ _ (x.err % 18446744073709551616) (by first | omega | (simp <;> omega)) (by omega) (Z.sel 2 [1, 0] rfl)) rfl ?_
 generalize hY1 : [] ++ eU (x.err % 18446744073709551616) = Y1
 clear Z; rintro _ w ⟨a1, c1, rfl, Z⟩
 have hY1f0 : (List.length Y1) ≤ 0 + 10 := by rw [← hY1, List.length_append]; exact Nat.add_le_add_left (ZO (by omega)) _
 replace Z := Z.n8 L (a0 := Zd b2 #[.slice a1 (Za Y1).length c1] 70) (a1 := Ze 5 1 (Za Y1) a1 c1) rfl
 refine Ze8 ?_
 as_aux_lemma =>
 refine Ze7 <| WC.region <| Zfd 3 [.int .u64 x.handle] rfl (by exact Z.ld 2 rfl rfl) ?_
 refine Zfb rfl rfl (ZS _ _ _ _ x.handle (by first | omega | (simp <;> omega)) (by omega) Z) rfl ?_
 generalize hY2 : Y1 ++ eU x.handle = Y2
 clear Z; rintro _ w ⟨a2, c2, rfl, Z⟩
 have hY2f0 : (List.length Y2) ≤ (List.length Y1) + 10 := by rw [← hY2, List.length_append]; exact Nat.add_le_add_left (ZO (by omega)) _
 replace Z := Z.n8 L (a0 := Zd b2 #[.slice a2 (Za Y2).length c2] 70) (a1 := Ze 5 1 (Za Y2) a2 c2) rfl
 refine Ze8 <| Ze7 <| WC.region <| Zfd 3 [.int .i64 x.value] rfl (by exact Z.ld 2 rfl rfl) ?_
 refine Zfb rfl rfl (Zm _ _ _ _ x.value (by first | omega | (simp <;> omega)) (by assumption) Z) rfl ?_
 generalize hY3 : Y2 ++ eZ x.value = Y3
 clear Z; rintro _ w ⟨a3, c3, rfl, Z⟩
 have hY3f0 : (List.length Y3) ≤ (List.length Y2) + 10 := by rw [← hY3, List.length_append]; exact Nat.add_le_add_left (Zl (by assumption)) _
 replace Z := Z.n8 L (a0 := Zd b2 #[.slice a3 (Za Y3).length c3] 70) (a1 := Ze 5 1 (Za Y3) a3 c3) rfl
 refine Ze8 <| Ze7 <| WC.region <| Zfd 3 [.bool x.found] rfl (by exact Z.ld 2 rfl rfl) ?_
 refine Zfb rfl rfl (Hz _ _ _ _ x.found (by first | omega | (simp <;> omega)) Z) rfl ?_
 generalize hY4 : Y3 ++ eF x.found = Y4
 clear Z; rintro _ w ⟨a4, c4, rfl, Z⟩
 have hY4f0 : (List.length Y4) = (List.length Y3) + 1 := by rw [← hY4]; simp [eF]
 replace Z := Z.n8 L (a0 := Zd b2 #[.slice a4 (Za Y4).length c4] 70) (a1 := Ze 5 1 (Za Y4) a4 c4) rfl
 refine Ze8 ?_
 as_aux_lemma =>
 refine Ze7 <| WC.region <| Zfd 3 [.int .i64 x.n] rfl (by exact Z.ld 2 rfl rfl) ?_
 refine Zfb rfl rfl (Zm _ _ _ _ x.n (by first | omega | (simp <;> omega)) (by assumption) Z) rfl ?_
 generalize hY5 : Y4 ++ eZ x.n = Y5
 clear Z; rintro _ w ⟨a5, c5, rfl, Z⟩
 have hY5f0 : (List.length Y5) ≤ (List.length Y4) + 10 := by rw [← hY5, List.length_append]; exact Nat.add_le_add_left (Zl (by assumption)) _
 replace Z := Z.n8 L (a0 := Zd b2 #[.slice a5 (Za Y5).length c5] 70) (a1 := Ze 5 1 (Za Y5) a5 c5) rfl
 refine Ze8 <| Ze7 <| WC.region <| Zfd 4 [.int .i64 x.ekey] rfl (by exact Z.ld 2 rfl rfl) ?_
 refine Zfb rfl rfl (Zm _ _ _ _ x.ekey (by first | omega | (simp <;> omega)) (by assumption) Z) rfl ?_
 generalize hY6 : Y5 ++ eZ x.ekey = Y6
 clear Z; rintro _ w ⟨a6, c6, rfl, Z⟩
 have hY6f0 : (List.length Y6) ≤ (List.length Y5) + 10 := by rw [← hY6, List.length_append]; exact Nat.add_le_add_left (Zl (by assumption)) _
 replace Z := Z.n8 L (a0 := Zd b2 #[.slice a6 (Za Y6).length c6] 70) (a1 := Ze 5 1 (Za Y6) a6 c6) rfl
 refine Ze8 <| Ze7 <| WC.region <| Zfd 4 [.int .i64 x.eval] rfl (by exact Z.ld 2 rfl rfl) ?_
 refine Zfb rfl rfl (Zm _ _ _ _ x.eval (by first | omega | (simp <;> omega)) (by assumption) Z) rfl ?_
 generalize hY7 : Y6 ++ eZ x.eval = Y7
 clear Z; rintro _ w ⟨a7, c7, rfl, Z⟩
 have hY7f0 : (List.length Y7) ≤ (List.length Y6) + 10 := by rw [← hY7, List.length_append]; exact Nat.add_le_add_left (Zl (by assumption)) _
 replace Z := Z.n8 L (a0 := Zd b2 #[.slice a7 (Za Y7).length c7] 70) (a1 := Ze 5 1 (Za Y7) a7 c7) rfl
 refine Ze8 ?_
 as_aux_lemma =>
 refine Ze7 <| WC.region <| Zfd 4 [.int .i64 x.count] rfl (by exact Z.ld 2 rfl rfl) ?_
 refine Zfb rfl rfl (Zm _ _ _ _ x.count (by first | omega | (simp <;> omega)) (by assumption) Z) rfl ?_
 generalize hY8 : Y7 ++ eZ x.count = Y8
 clear Z; rintro _ w ⟨a8, c8, rfl, Z⟩
 have hY8f0 : (List.length Y8) ≤ (List.length Y7) + 10 := by rw [← hY8, List.length_append]; exact Nat.add_le_add_left (Zl (by assumption)) _
 replace Z := Z.n8 L (a0 := Zd b2 #[.slice a8 (Za Y8).length c8] 70) (a1 := Ze 5 1 (Za Y8) a8 c8) rfl
 refine Ze8 <| Ze7 <| WC.region <| Zfd 4 [.int .i64 x.sum] rfl (by exact Z.ld 2 rfl rfl) ?_
 refine Zfb rfl rfl (Zm _ _ _ _ x.sum (by first | omega | (simp <;> omega)) (by assumption) Z) rfl ?_
 generalize hY9 : Y8 ++ eZ x.sum = Y9
 clear Z; rintro _ w ⟨a9, c9, rfl, Z⟩
 have hY9f0 : (List.length Y9) ≤ (List.length Y8) + 10 := by rw [← hY9, List.length_append]; exact Nat.add_le_add_left (Zl (by assumption)) _
 replace Z := Z.n8 L (a0 := Zd b2 #[.slice a9 (Za Y9).length c9] 70) (a1 := Ze 5 1 (Za Y9) a9 c9) rfl
 refine Ze8 <| Ze7 <| WC.region <| Zfd 4 [.int .i64 x.mn] rfl (by exact Z.ld 2 rfl rfl) ?_
 refine Zfb rfl rfl (Zm _ _ _ _ x.mn (by first | omega | (simp <;> omega)) (by assumption) Z) rfl ?_
 generalize hY10 : Y9 ++ eZ x.mn = Y10
 clear Z; rintro _ w ⟨a10, c10, rfl, Z⟩
 have hY10f0 : (List.length Y10) ≤ (List.length Y9) + 10 := by rw [← hY10, List.length_append]; exact Nat.add_le_add_left (Zl (by assumption)) _
 replace Z := Z.n8 L (a0 := Zd b2 #[.slice a10 (Za Y10).length c10] 70) (a1 := Ze 5 1 (Za Y10) a10 c10) rfl
 refine Ze8 ?_
 as_aux_lemma =>
 refine Ze7 <| WC.region <| Zfd 4 [.int .i64 x.mx] rfl (by exact Z.ld 2 rfl rfl) ?_
 refine Zfb rfl rfl (Zm _ _ _ _ x.mx (by first | omega | (simp <;> omega)) (by assumption) Z) rfl ?_
 generalize hY11 : Y10 ++ eZ x.mx = Y11
 clear Z; rintro _ w ⟨a11, c11, rfl, Z⟩
 have hY11f0 : (List.length Y11) ≤ (List.length Y10) + 10 := by rw [← hY11, List.length_append]; exact Nat.add_le_add_left (Zl (by assumption)) _
 replace Z := Z.n8 L (a0 := Zd b2 #[.slice a11 (Za Y11).length c11] 70) (a1 := Ze 5 1 (Za Y11) a11 c11) rfl
 refine Ze8 <| Ze7 <| WC.region <| Zfd 3 [.slice ae (Zo x.ents).length ce] rfl (by exact Z.ld 2 rfl rfl) ?_
 refine Zfb rfl rfl (Qi _ _ _ _ x.ents _ _ (by first | omega | (simp <;> omega)) (by omega) (by first | omega | (simp <;> omega)) (by assumption) (Z.sel 6 [0, 0, 3, 0, 0, 0] rfl)) rfl ?_
 generalize hY12 : Y11 ++ YF x.ents = Y12
 clear Z; rintro _ w ⟨a12, c12, rfl, Z⟩
 have hY12f0 : (List.length Y12) ≤ (List.length Y11) + (10 + 20 * (List.length x.ents)) := by rw [← hY12, List.length_append]; exact Nat.add_le_add_left (Jd (by assumption) (by omega)) _
 replace Z := Z.n8 L (a0 := Zd b2 #[.slice a12 (Za Y12).length c12] 70) (a1 := Ze 5 1 (Za Y12) a12 c12) rfl
 refine Ze8 <| Ze7 <| WC.region <| Zfd 3 [.slice ac (Zn x.chs).length cc] rfl (by exact Z.ld 3 rfl rfl) ?_
 refine Zfb rfl rfl (Qq _ _ _ _ x.chs _ _ (by first | omega | (simp <;> omega)) (by omega) (by first | omega | (simp <;> omega)) (by assumption) (Z.sel 7 [0, 0, 4, 0, 0, 0, 0] rfl)) rfl ?_
 generalize hY13 : Y12 ++ XO x.chs = Y13
 clear Z; rintro _ w ⟨a13, c13, rfl, Z⟩
 have hY13f0 : (List.length Y13) ≤ (List.length Y12) + (10 + 31 * (List.length x.chs)) := by rw [← hY13, List.length_append]; exact Nat.add_le_add_left (JY (by assumption) (by omega)) _
 replace Z := Z.n8 L (a0 := Zd b2 #[.slice a13 (Za Y13).length c13] 70) (a1 := Ze 5 1 (Za Y13) a13 c13) rfl
 refine Ze8 ?_
 as_aux_lemma =>
 refine Ze7 <| WC.region <| Zfd 5 [.slice ak (Zb x.keys).length ck] rfl (by exact Z.ld 4 rfl rfl) ?_
 refine Zfi 73 rfl (Ye (by omega)) ?_
 refine Zfb rfl rfl (ZS _ _ _ _ (List.length (Zb x.keys) : Int) (by first | omega | (simp <;> omega)) (by omega) Z) rfl ?_
 generalize hY14 : Y13 ++ eU (List.length (Zb x.keys) : Int) = Y14
 clear Z; rintro _ w ⟨a14, c14, rfl, Z⟩
 have hY14f0 : (List.length Y14) ≤ (List.length Y13) + 10 := by rw [← hY14, List.length_append]; exact Nat.add_le_add_left (ZO (by omega)) _
 replace Z := Z.n8 L (a0 := Zd b2 #[.slice a14 (Za Y14).length c14] 70) (a1 := Ze 5 1 (Za Y14) a14 c14) rfl
 refine Ze8 <| Ze7 <| Ze7 <| WC.region <| Zfd 4 [.slice ak (Zb x.keys).length ck] rfl (by exact Z.ld 4 rfl rfl) ?_
 refine Ze8 <| Zfj <| Zft [0, 3, 4, 5, 76, 77, 78] (fun kM vs w => ∃ (k : Nat) (ys : List Int) (a3 : Option Addr) (c3 : Nat), vs = [.slice a (Za bs).length c, .pointer (some ⟨b1, 0, none⟩), .slice none 0 0, .pointer (some ⟨b2, 0, none⟩), .slice ak (Zb x.keys).length ck, .int .i64 (List.length (Zb x.keys) : Int), .int .i64 (k : Int)] ∧ St g (Zd b2 #[.slice a3 (Za ys).length c3] 70 :: Ze 5 1 (Za ys) a3 c3 :: Sh 88 4 (Zn x.chs) ac cc :: Sh 27 2 (Zo x.ents) ae ce :: Zd b1 #[.int .i64 x.err, .int .u64 x.handle, .int .i64 x.value, .bool x.found, .int .i64 x.n, .int .i64 x.ekey, .int .i64 x.eval, .int .i64 x.count, .int .i64 x.sum, .int .i64 x.mn, .int .i64 x.mx, .slice ae (Zo x.ents).length ce, .slice ac (Zn x.chs).length cc, .slice ak (Zb x.keys).length ck, .slice ab (Za x.bytes).length cb] 35 :: Sh 5 1 (Za bs) a c :: Sh 5 1 (Za x.bytes) ab cb :: Sh 2 1 (Zb x.keys) ak ck :: L) w ∧ (k ≤ x.keys.length) ∧ (ys = Y14 ++ (x.keys.take k).flatMap eZ) ∧ (ys.length ≤ Y14.length + 10 * k) ∧ (x.keys.length - k) = kM) ((List.length x.keys) - 0) ⟨0, Y14, _, _, rfl, Z, (Nat.zero_le _), (by simp), (by omega), rfl⟩ ?_
 clear Z; rintro _ _ w j ⟨k, ys, a3, c3, rfl, Z, hk, hys, hyl, rfl⟩
 refine Ze7 <| WC.region <| Ze6 1 rfl <| Ze8 <| Ze7 <| Zfe rfl (fun cd1 => ?_) (fun cd1 => ?_)
 ·refine Zfc ?_
  as_aux_lemma =>
  refine Ze7 <| Zfj <| Ze7 <| WC.region ?_
  obtain ⟨z, hx2⟩ : ∃ z, x.keys[k]? = some z := ⟨_, List.getElem?_eq_getElem (by omega)⟩; have hz := w14 z (List.mem_of_getElem? hx2)
  refine Zfw rfl rfl (i := (k : Int)) (k) el_32 rfl rfl (by omega) (Zt (Zg hx2)) (Z.rdS 7 rfl (Zg hx2)).1 ?_
  refine Zfd 2 [.int .i64 z] rfl (by exact (Z.rdS 7 rfl (Zg hx2)).2 0 _ rfl) ?_
  refine Ze8 <| WC.region <| Ze6 2 rfl <| Zfb rfl rfl (Zm _ _ _ _ z (by first | omega | (simp <;> omega)) (by assumption) Z) rfl ?_
  generalize hY15 : ys ++ eZ z = Y15
  clear Z; rintro _ w ⟨a15, c15, rfl, Z⟩
  have hY15f0 : (List.length Y15) ≤ (List.length ys) + 10 := by rw [← hY15, List.length_append]; exact Nat.add_le_add_left (Zl (by assumption)) _
  replace Z := Z.n8 L (a0 := Zd b2 #[.slice a15 (Za Y15).length c15] 70) (a1 := Ze 5 1 (Za Y15) a15 c15) rfl
  refine Ze8 <| WC.region <| Ze6 1 rfl <| Zfi 85 rfl (ZF (by omega)) ?_
  refine Ze6 1 rfl <| Ze8 ?_
  exact ⟨_, by omega, k + 1, Y15, _, _, rfl, Z, (by omega), (by rw [Xd eZ hx2, ← hY15, hys]; simp only [List.append_assoc]), (by omega), rfl⟩
 ·refine Zfv ?_
  as_aux_lemma =>
  refine Ze7 <| WC.region <| Zfd 3 [.slice ab (Za x.bytes).length cb] rfl (by exact Z.ld 4 rfl rfl) ?_
  refine Zfb rfl rfl (UL _ _ _ _ x.bytes _ _ (by first | omega | (simp <;> omega)) (by omega) (Z.sel 7 [0, 0, 4, 0, 0, 0, 0] rfl)) rfl ?_
  generalize hY15 : ys ++ Yp x.bytes = Y15
  clear Z; rintro _ w ⟨a15, c15, rfl, Z⟩
  have hY15f0 : (List.length Y15) ≤ (List.length ys) + (10 + (List.length x.bytes)) := by rw [← hY15, List.length_append]; exact Nat.add_le_add_left (XQ (by omega)) _
  replace Z := Z.n8 L (a0 := Zd b2 #[.slice a15 (Za Y15).length c15] 70) (a1 := Ze 5 1 (Za Y15) a15 c15) rfl
  refine Ze8 <| Ze7 <| WC.region <| Zfd 5 [.slice a15 (Za Y15).length c15] rfl (by exact Z.ld 0 rfl rfl) ?_
  replace Z := (Z.at_ 1 rfl).share
  replace Z := Z.n8 L (a0 := Sh 5 1 (Za Y15) a15 c15) rfl
  refine Zfb rfl rfl (DX _ _ _ _ _ _ (by omega) (Z.sel 7 [6, 0, 0, 0, 0, 0, 0] rfl)) rfl ?_
  clear Z; rintro _ w ⟨a16, c16, rfl, Z⟩
  replace Z := Z.n9 L rfl
  refine Ze6 1 rfl <| Ze8 <| Zfa ?_
  refine ⟨[.slice a16 (Za (bs ++ Y15)).length c16], rfl, ?_⟩
  replace Z := (Z.sel 8 [0, 0, 2, 3, 2] rfl)
  have hy : Y15 = YJ x := by
   rw [← hY15, hys, XP eZ (by omega), ← hY14, ← hY13, ← hY12, ← hY11, ← hY10, ← hY9, ← hY8, ← hY7, ← hY6, ← hY5, ← hY4, ← hY3, ← hY2, ← hY1, YJ]; simp only [List.nil_append, List.append_assoc, Zh]
  rw [← hy]; exact ⟨_, _, rfl, Z⟩
end Go.Proofs.YtlifpobidhfbfaaGreatDoor
namespace Go.Proofs.YtlifpobidhfbfaaGreatDoor
open Go Go.V Go.RowKit Go.Maps
variable {g w : World} {L : List HP}
theorem Vx (Z : St g (L) w) :
  Sp Tryz.prog 73 [.int .i64 1] w (fun v w' => v = .tuple #[.string (Y_ []), .bool true] ∧ St g (L) w') := by
 refine Sp.enter Tryz.func73 rfl (by kernel_rfl) (by kernel_rfl) ?_
 refine Ze7 <| WC.region <| Ze6 2 rfl <| Ze8 <| Ze7 <| Ze7 <| WC.region <| Ze6 1 rfl <| Ze8 <| Zfj <| Ze7 <| Ze7 ?_
 refine WC.region <| Ze6 2 rfl <| Ze8 <| Zfs rfl (decide_eq_true ((by decide))) ?_
 refine Zfc <| Zfs rfl (decide_eq_true ((by decide))) ?_
 refine Ze7 <| WC.region <| Ze6 2 rfl <| Ze8 <| Zfa ?_
 refine ⟨[.string ⟨#[]⟩, .bool true], ⟨rfl, rfl⟩, ?_⟩
 exact ⟨rfl, Z⟩
theorem Zey : okOp (op0 1) := by
 refine ⟨rfl, ⟨?_, ?_, ?_, ?_, ?_⟩, fun _ h => (by cases h), ?_⟩
 ·exact ⟨Int.le_refl 0, (by decide)⟩
 ·show 0 ≤ 32; decide
 ·exact Nat.zero_le _
 ·exact Nat.zero_le _
 ·exact Nat.zero_le _
 ·exact ⟨fun _ => rfl, fun _ => rfl, fun _ => rfl, fun _ => rfl, fun _ => rfl, fun _ => rfl, fun _ => rfl, fun _ => rfl, fun _ => rfl, fun _ => rfl, fun _ => rfl, fun _ => rfl⟩
theorem V7 (Z : St g (L) w) :
  Sp Tryz.prog 48 [.agg #[.int .i64 1, .int .u64 0, .int .u64 0, .int .i64 0, .int .i64 0, .int .i64 0, .int .i64 0, .int .i64 0, .bool false, .string ⟨#[]⟩, .slice none 0 0, .slice none 0 0, .slice none 0 0]] w (fun v w' => v = .bool true ∧ St g (L) w') := by
 refine (HC (op0 1) none none none 0 0 0 (Z.nilS 88 4)).mono fun v w' h => ?_
 obtain ⟨ok, h1, h2, h3⟩ := h
 have h4 : ok = true := h3.2 Zey
 subst h4
 exact ⟨h1, h2.sel 1 [] rfl⟩
theorem snd_1 (Z : St g (L) w) :
  Sp Tryz.prog 49 [.agg #[.int .i64 1, .int .u64 0, .int .u64 0, .int .i64 0, .int .i64 0, .int .i64 0, .int .i64 0, .int .i64 0, .bool false, .string ⟨#[]⟩, .slice none 0 0, .slice none 0 0, .slice none 0 0]] w (fun v w' => v = .bool true ∧ St g (L) w') := by
 refine Sp.enter Tryz.func49 rfl (by kernel_rfl) (by kernel_rfl) ?_
 refine Ze7 <| WC.region <| Zf0 rfl rfl #[.int .i64 1, .int .u64 0, .int .u64 0, .int .i64 0, .int .i64 0, .int .i64 0, .int .i64 0, .int .i64 0, .bool false, .string ⟨#[]⟩, .slice none 0 0, .slice none 0 0, .slice none 0 0] Z rfl rfl (fun b1 w Z => ?_)
 refine Ze6 1 rfl <| Ze8 <| Ze7 <| Ze7 <| WC.region <| Zfd 2 [.int .i64 1] rfl (by exact Z.ld 0 rfl rfl) ?_
 refine Ze8 <| Zfj <| Ze7 <| WC.region <| Ze6 2 rfl <| Ze8 <| Zfl rfl (decide_eq_false ((by decide))) ?_
 refine Ze7 <| WC.region <| Ze6 2 rfl <| Ze8 <| Zfl rfl (decide_eq_false ((by decide))) ?_
 refine Ze7 <| WC.region <| Ze6 2 rfl <| Ze8 ?_
 as_aux_lemma =>
 refine Zfl rfl (decide_eq_false ((by decide))) ?_
 refine Ze7 <| WC.region <| Ze6 2 rfl <| Ze8 <| Zfl rfl (decide_eq_false ((by decide))) ?_
 refine Ze7 <| WC.region <| Ze6 2 rfl <| Ze8 <| Zfl rfl (decide_eq_false ((by decide))) ?_
 refine Ze7 <| WC.region <| Ze6 2 rfl <| Ze8 <| Zfl rfl (decide_eq_false ((by decide))) ?_
 refine Ze7 <| WC.region <| Ze6 2 rfl <| Ze8 <| Zfl rfl (decide_eq_false ((by decide))) ?_
 refine Zfc <| Ze7 <| WC.region <| Ze6 1 rfl <| Ze8 ?_
 as_aux_lemma =>
 refine Zfa ?_
 refine ⟨[.bool true], rfl, ?_⟩
 replace Z := (Z.sel 1 [] rfl)
 exact ⟨rfl, Z⟩
theorem opA_1 (p : Nat) (Z : St g (L) w) :
  Sp Tryz.prog 77 [.pointer (some ⟨p, 0, none⟩), .agg #[.int .i64 1, .int .u64 0, .int .u64 0, .int .i64 0, .int .i64 0, .int .i64 0, .int .i64 0, .int .i64 0, .bool false, .string ⟨#[]⟩, .slice none 0 0, .slice none 0 0, .slice none 0 0]] w (fun v w' => v = .int .i64 0 ∧ St g (L) w') := by
 refine Sp.enter Tryz.func77 rfl (by kernel_rfl) (by kernel_rfl) ?_
 refine Ze7 <| WC.region <| Zf0 rfl rfl #[.int .i64 1, .int .u64 0, .int .u64 0, .int .i64 0, .int .i64 0, .int .i64 0, .int .i64 0, .int .i64 0, .bool false, .string ⟨#[]⟩, .slice none 0 0, .slice none 0 0, .slice none 0 0] Z rfl rfl (fun b1 w Z => ?_)
 refine Ze6 1 rfl <| Ze8 <| Ze7 <| Ze7 <| WC.region <| Zfd 2 [.int .i64 1] rfl (by exact Z.ld 0 rfl rfl) ?_
 refine Ze8 <| Zfj <| Ze7 <| Ze7 <| WC.region <| Ze6 2 rfl <| Ze8 <| Zfs rfl (by decide) ?_
 refine Zfc <| Zfs rfl (by decide) ?_
 refine Ze7 <| WC.region <| Ze6 1 rfl <| Ze8 <| Zfa ?_
 refine ⟨[.int .i64 0], rfl, ?_⟩
 replace Z := (Z.sel 1 [] rfl)
 exact ⟨rfl, Z⟩
theorem Zd0 (p : Nat) (Z : St g (L) w) :
  Sp Tryz.prog 51 [.pointer (some ⟨p, 0, none⟩), .agg #[.int .i64 1, .int .u64 0, .int .u64 0, .int .i64 0, .int .i64 0, .int .i64 0, .int .i64 0, .int .i64 0, .bool false, .string ⟨#[]⟩, .slice none 0 0, .slice none 0 0, .slice none 0 0]] w (fun v w' => v = .int .i64 0 ∧ St g (L) w') := by
 refine Sp.enter Tryz.func51 rfl (by kernel_rfl) (by kernel_rfl) ?_
 refine Ze7 <| WC.region <| Zf0 rfl rfl #[.int .i64 1, .int .u64 0, .int .u64 0, .int .i64 0, .int .i64 0, .int .i64 0, .int .i64 0, .int .i64 0, .bool false, .string ⟨#[]⟩, .slice none 0 0, .slice none 0 0, .slice none 0 0] Z rfl rfl (fun b1 w Z => ?_)
 refine Ze6 1 rfl <| Ze8 <| Ze7 <| Ze7 <| WC.region <| Ze6 1 rfl <| Zfy rfl rfl 0 Z rfl rfl Zk <| Zfb rfl rfl (opA_1 p Z) rfl ?_
 clear Z; rintro _ w ⟨rfl, Z⟩
 replace Z := Z.n1 L rfl
 refine Ze6 1 rfl <| Ze8 <| Ze7 <| WC.region <| Ze6 2 rfl <| Ze8 <| Zfl rfl (decide_eq_false ((by decide))) ?_
 refine Zfc <| Ze7 <| Ze7 <| WC.region <| Zfd 2 [.int .i64 1] rfl (by exact Z.ld 0 rfl rfl) ?_
 refine Ze8 ?_
 as_aux_lemma =>
 refine Zfj <| Ze7 <| Ze7 <| WC.region <| Ze6 2 rfl <| Ze8 <| Zfl rfl (decide_eq_false ((by decide))) ?_
 refine Ze7 <| WC.region <| Ze6 2 rfl <| Ze8 <| Zfl rfl (decide_eq_false ((by decide))) ?_
 refine Ze7 <| WC.region <| Ze6 2 rfl <| Ze8 <| Zfl rfl (decide_eq_false ((by decide))) ?_
 refine Ze7 <| WC.region <| Ze6 2 rfl <| Ze8 <| Zfl rfl (decide_eq_false ((by decide))) ?_
 refine WC.region <| Ze6 2 rfl <| Ze8 ?_
 as_aux_lemma =>
 refine Zfl rfl (decide_eq_false ((by decide))) ?_
 refine Ze7 <| Ze7 <| WC.region <| Ze6 2 rfl <| Ze8 <| Zfl rfl (decide_eq_false ((by decide))) ?_
 refine Ze7 <| WC.region <| Ze6 2 rfl <| Ze8 <| Zfl rfl (decide_eq_false ((by decide))) ?_
 refine WC.region <| Ze6 2 rfl <| Ze8 <| Zfl rfl (decide_eq_false ((by decide))) ?_
 refine Zfc <| Ze7 <| WC.region <| Ze6 1 rfl <| Ze8 <| Zfa ?_
 refine ⟨[.int .i64 0], rfl, ?_⟩
 replace Z := (Z.sel 1 [] rfl)
 exact ⟨rfl, Z⟩
theorem DW (Z : St g (L) w) :
  Sp Tryz.prog 52 [.int .i64 1] w (fun v w' => v = .bool true ∧ St g (L) w') := by
 refine Sp.enter Tryz.func52 rfl (by kernel_rfl) (by kernel_rfl) ?_
 refine Ze7 <| WC.region <| Ze6 1 rfl <| Ze8 <| Ze7 <| Ze7 <| WC.region <| Ze6 1 rfl <| Ze8 <| Zfj <| Ze7 <| Ze7 ?_
 refine WC.region <| Ze6 2 rfl <| Ze8 <| Zfs rfl (decide_eq_true ((by decide))) ?_
 refine Zfc <| Zfs rfl (decide_eq_true ((by decide))) ?_
 refine Ze7 <| WC.region <| Ze6 1 rfl <| Ze8 <| Zfa ?_
 refine ⟨[.bool true], rfl, ?_⟩
 exact ⟨rfl, Z⟩
theorem opn_0 {V : VM} (hT : TOk V.T) : V.T.s.opn 0 = false := by
 have : V.T.s.ok 0 = false := hT.s.u0
 unfold SM.opn
 rw [show (0 : Int) % 4294967296 = 0 from rfl, this]; rfl
theorem Zdd (p s a : Nat) (V : VM) (hT : TOk V.T) (Z : St g (U0 p s a V :: L) w) :
  Sp Tryz.prog 81 [.pointer (some ⟨p, 0, none⟩), .int .u64 0] w (fun v w' => v = .int .u32 0 ∧ St g (U0 p s a V :: L) w') := by
 refine Sp.enter Tryz.func81 rfl (by kernel_rfl) (by kernel_rfl) ?_
 refine Ze7 <| WC.region <| Ze6 1 rfl <| Ze8 <| Ze7 <| WC.region ?_
 obtain ⟨⟨nm, c, x, m⟩, Z⟩ := St.exOpen (f := Qk p s a V) Z
 replace Z : St g (Zd p #[.pointer (some ⟨s, 0, none⟩), .pointer (some ⟨nm, 0, none⟩), .pointer (some ⟨c, 0, none⟩), .pointer (some ⟨x, 0, none⟩), .map (some m)] 101 :: Ju s a V :: ZN m (.map (mE []) 0) :: L) w := Z
 refine Zfd 5 [.pointer (some ⟨s, 0, none⟩)] rfl (by exact Z.ld 0 rfl rfl) ?_
 refine Zfb rfl rfl (UG _ _ _ 0 hT (by decide) (opn_0 hT) (Z.sel 2 [1, 0] rfl)) rfl ?_
 clear Z; rintro _ w ⟨rfl, Z⟩
 replace Z := Z.n3 L rfl
 refine Ze6 5 rfl <| Ze8 <| Ze7 <| WC.region <| Ze6 2 rfl <| Ze8 <| Zfa ?_
 replace Z := St.exClose (f := Qk p s a V) (L := L) ⟨nm, c, x, m⟩ ((Z.sel 2 [1, 0] rfl))
 replace Z : St g (U0 p s a V :: L) w := Z
 refine ⟨[.int .u32 0], rfl, ?_⟩
 exact ⟨rfl, Z⟩
theorem Cv (p s a : Nat) (V : VM) (A : AM) (R : List Int) (hV : VI V A R) (hrm : 0 < V.room) (hla : V.last < 1000000000) (hlen : R.length ≤ 900000000) (Z : St g (U0 p s a V :: XT a A :: L) w) :
  Sp Tryz.prog 54 [.pointer (some ⟨p, 0, none⟩), .agg #[.int .i64 1, .int .u64 0, .int .u64 0, .int .i64 0, .int .i64 0, .int .i64 0, .int .i64 0, .int .i64 0, .bool false, .string ⟨#[]⟩, .slice none 0 0, .slice none 0 0, .slice none 0 0]] w (fun v w' => ∃ (V2 : VM), v = .agg #[.int .i64 0, .int .u64 V.T.newH, .int .i64 0, .bool false, .int .i64 0, .int .i64 0, .int .i64 0, .int .i64 0, .int .i64 0, .int .i64 0, .int .i64 0, .slice none 0 0, .slice none 0 0, .slice none 0 0, .slice none 0 0] ∧ St g (U0 p s a V2 :: XT a A :: L) w' ∧ (VI V2 A R) ∧ (Com V 0 [] V2)) := by
 refine Sp.enter Tryz.func54 rfl (by kernel_rfl) (by kernel_rfl) ?_
 refine Ze7 <| WC.region <| Zf0 rfl rfl #[.int .i64 1, .int .u64 0, .int .u64 0, .int .i64 0, .int .i64 0, .int .i64 0, .int .i64 0, .int .i64 0, .bool false, .string ⟨#[]⟩, .slice none 0 0, .slice none 0 0, .slice none 0 0] Z rfl rfl (fun b1 w Z => ?_)
 refine Zf5 rfl rfl Xk Z (fun b2 w Z => ?_)
 refine Ze8 <| Ze7 <| WC.region <| Zfd 2 [.int .u64 0] rfl (by exact Z.ld 1 rfl rfl) ?_
 refine Zf3 rfl rfl (YV [0]) el_150 Z (by exact ⟨rfl, rfl⟩) (Zau _) rfl (Nat.le_of_ble_eq_true rfl) (fun b3 w Z => ?_)
 refine Ze6 1 rfl <| Ze8 <| Ze7 <| WC.region <| Zf5 rfl rfl Xk Z (fun b4 w Z => ?_)
 refine Ze8 <| Ze7 <| WC.region <| Ze6 1 rfl <| Ze8 <| Ze7 <| WC.region <| Zfd 3 [.int .u64 0] rfl (by exact Z.ld 3 rfl rfl) ?_
 refine Zfb rfl rfl (Zdd _ _ _ _ hV.t (Z.sel 5 [4, 0, 0, 0, 0] rfl)) rfl ?_
 clear Z; rintro _ w ⟨rfl, Z⟩
 replace Z := Z.n6 L rfl
 refine Ze6 1 rfl <| Ze8 ?_
 as_aux_lemma =>
 refine Ze7 <| Ze7 <| WC.region <| Zfd 2 [.int .i64 1] rfl (by exact Z.ld 4 rfl rfl) ?_
 refine Ze8 <| Zfj <| Ze7 <| WC.region <| Ze6 2 rfl <| Ze8 <| Zfs rfl (decide_eq_true ((by decide))) ?_
 refine WC.region <| Ze6 1 rfl <| Ze8 <| Ze7 <| Ze7 <| WC.region <| Zfd 3 [.int .i64 0] rfl (by exact Z.ld 1 rfl rfl) ?_
 refine Ze8 <| Zfl rfl (decide_eq_false ((by decide))) ?_
 refine Zfc <| Ze7 <| WC.region ?_
 obtain ⟨⟨nm, c, x, m⟩, Z⟩ := St.exOpen (f := Qk p s a V) Z
 replace Z := Z.n8 L (a0 := Zd p #[.pointer (some ⟨s, 0, none⟩), .pointer (some ⟨nm, 0, none⟩), .pointer (some ⟨c, 0, none⟩), .pointer (some ⟨x, 0, none⟩), .map (some m)] 101) (a1 := Ju s a V) (a2 := ZN m (.map (mE []) 0)) rfl
 refine Zfd 6 [.pointer (some ⟨s, 0, none⟩)] rfl (by exact Z.ld 0 rfl rfl) ?_
 replace Z := Z.nilS 25 1
 replace Z := Z.n9 L (a0 := Sh 25 1 (YV []) none 0) rfl
 refine Zfb rfl rfl (DY _ _ _ _ R 0 [] _ _ hV (.inl rfl) VK (fun _ h => by cases h) hrm hla hlen (Z.sel 9 [2, 7, 0, 0, 0, 0, 0, 0, 0] rfl)) rfl ?_
 clear Z; rintro _ w ⟨V1, rfl, Z, f1, f2⟩
 replace Z := Z.n9 L rfl
 refine Ze6 4 rfl <| Zfn rfl rfl rfl 5 Z rfl rfl rfl rfl rfl rfl (fun w Z => ?_)
 replace Z := Z.n9 L (a5 := Zd b4 #[.int .i64 0, .int .u64 V.T.newH, .int .i64 0, .bool false, .int .i64 0, .int .i64 0, .int .i64 0, .int .i64 0, .int .i64 0, .int .i64 0, .int .i64 0, .slice none 0 0, .slice none 0 0, .slice none 0 0, .slice none 0 0] 35) rfl
 refine Ze6 1 rfl <| Zfn rfl rfl rfl 5 Z rfl rfl rfl rfl rfl rfl (fun w Z => ?_)
 replace Z := Z.n9 L rfl
 refine Ze8 ?_
 as_aux_lemma =>
 refine Ze7 <| WC.region ?_
 replace Z := St.exClose (f := Qk p s a V1) (L := XT a (A.ret 0) :: Sh 25 1 (YV []) none 0 :: Zd b4 #[.int .i64 0, .int .u64 V.T.newH, .int .i64 0, .bool false, .int .i64 0, .int .i64 0, .int .i64 0, .int .i64 0, .int .i64 0, .int .i64 0, .int .i64 0, .slice none 0 0, .slice none 0 0, .slice none 0 0, .slice none 0 0] 35 :: Ze 25 1 (YV [0]) (some ⟨b3, 0, none⟩) (YV [0]).length :: Zd b2 #[.int .i64 0, .int .u64 0, .int .i64 0, .bool false, .int .i64 0, .int .i64 0, .int .i64 0, .int .i64 0, .int .i64 0, .int .i64 0, .int .i64 0, .slice none 0 0, .slice none 0 0, .slice none 0 0, .slice none 0 0] 35 :: Zd b1 #[.int .i64 1, .int .u64 0, .int .u64 0, .int .i64 0, .int .i64 0, .int .i64 0, .int .i64 0, .int .i64 0, .bool false, .string ⟨#[]⟩, .slice none 0 0, .slice none 0 0, .slice none 0 0] 66 :: L) ⟨nm, c, x, m⟩ ((Z.sel 5 [3, 0, 2, 0, 0] rfl))
 replace Z := Z.n7 L (a0 := U0 p s a V1) rfl
 refine Ze6 1 rfl <| Zfb rfl rfl (CM (Z := Z)) rfl ?_
 clear Z; rintro _ w ⟨rfl, Z⟩
 replace Z := Z.n7 L rfl
 refine Ze6 1 rfl <| Zfb rfl rfl (Uk _ (A.ret 0) (Z.sel 2 [1, 0] rfl)) rfl ?_
 clear Z; rintro _ w ⟨rfl, Z⟩
 replace Z := Z.n7 L rfl
 refine Ze8 <| Ze7 <| WC.region <| Zfy rfl rfl 3 Z rfl rfl ZK <| Zfu rfl rfl rfl 5 Z rfl rfl rfl rfl rfl ZK (fun w Z => ?_)
 replace Z := Z.n7 L (a5 := Zd b2 #[.int .i64 0, .int .u64 V.T.newH, .int .i64 0, .bool false, .int .i64 0, .int .i64 0, .int .i64 0, .int .i64 0, .int .i64 0, .int .i64 0, .int .i64 0, .slice none 0 0, .slice none 0 0, .slice none 0 0, .slice none 0 0] 35) rfl
 refine Ze8 <| Zfa ?_
 refine ⟨[.agg #[.int .i64 0, .int .u64 V.T.newH, .int .i64 0, .bool false, .int .i64 0, .int .i64 0, .int .i64 0, .int .i64 0, .int .i64 0, .int .i64 0, .int .i64 0, .slice none 0 0, .slice none 0 0, .slice none 0 0, .slice none 0 0]], ⟨⟨_, rfl, Z.lvF 5 rfl ZK⟩, trivial⟩, ?_⟩
 replace Z := (Z.sel 7 [1, 0] rfl)
 exact ⟨_, rfl, Z, f1, f2⟩
theorem do_1 (p s a : Nat) (V : VM) (A : AM) (R : List Int) (hV : VI V A R) (hrm : 0 < V.room) (hla : V.last < 1000000000) (hlen : R.length ≤ 900000000) (Z : St g (U0 p s a V :: XT a A :: L) w) :
  Sp Tryz.prog 26 [.pointer (some ⟨p, 0, none⟩), .agg #[.int .i64 1, .int .u64 0, .int .u64 0, .int .i64 0, .int .i64 0, .int .i64 0, .int .i64 0, .int .i64 0, .bool false, .string ⟨#[]⟩, .slice none 0 0, .slice none 0 0, .slice none 0 0]] w (fun v w' => ∃ (V2 : VM), v = .agg #[.int .i64 0, .int .u64 V.T.newH, .int .i64 0, .bool false, .int .i64 0, .int .i64 0, .int .i64 0, .int .i64 0, .int .i64 0, .int .i64 0, .int .i64 0, .slice none 0 0, .slice none 0 0, .slice none 0 0, .slice none 0 0] ∧ St g (U0 p s a V2 :: XT a A :: L) w' ∧ (VI V2 A R) ∧ (Com V 0 [] V2)) := by
 refine Sp.enter Tryz.func26 rfl (by kernel_rfl) (by kernel_rfl) ?_
 refine Ze7 <| WC.region <| Zf0 rfl rfl #[.int .i64 1, .int .u64 0, .int .u64 0, .int .i64 0, .int .i64 0, .int .i64 0, .int .i64 0, .int .i64 0, .bool false, .string ⟨#[]⟩, .slice none 0 0, .slice none 0 0, .slice none 0 0] Z rfl rfl (fun b1 w Z => ?_)
 refine Zf5 rfl rfl Xk Z (fun b2 w Z => ?_)
 refine Ze8 <| Ze7 <| Ze7 <| WC.region <| Zfy rfl rfl 1 Z rfl rfl Zk <| Zfb rfl rfl (V7 Z) rfl ?_
 clear Z; rintro _ w ⟨rfl, Z⟩
 replace Z := Z.n4 L rfl
 refine Ze6 2 rfl <| Zfh rfl rfl rfl <| Zfy rfl rfl 1 Z rfl rfl Zk <| Zfh rfl rfl rfl <| Zfb rfl rfl (snd_1 Z) rfl ?_
 clear Z; rintro _ w ⟨rfl, Z⟩
 replace Z := Z.n4 L rfl
 refine Zfh rfl rfl rfl <| Ze6 2 rfl <| Ze8 <| Zfl rfl rfl <| Zfc ?_
 as_aux_lemma =>
 refine Ze7 <| Ze7 <| WC.region <| Ze6 1 rfl <| Zfy rfl rfl 1 Z rfl rfl Zk <| Zfb rfl rfl (Zd0 p Z) rfl ?_
 clear Z; rintro _ w ⟨rfl, Z⟩
 replace Z := Z.n4 L rfl
 refine Ze6 1 rfl <| Ze8 <| Ze7 <| WC.region <| Ze6 2 rfl <| Ze8 <| Zfl rfl (decide_eq_false ((by decide))) ?_
 refine Zfc <| Ze7 <| Ze7 <| WC.region <| Zfd 2 [.int .i64 1] rfl (by exact Z.ld 1 rfl rfl) ?_
 refine Zfb rfl rfl (DW Z) rfl ?_
 clear Z; rintro _ w ⟨rfl, Z⟩
 replace Z := Z.n4 L rfl
 refine Ze8 <| Zfs rfl rfl <| Ze7 <| Ze7 <| WC.region ?_
 obtain ⟨⟨nm, c, x, m⟩, Z⟩ := St.exOpen (f := Qk p s a V) (Z.at_ 2 rfl)
 replace Z := Z.n6 L (a0 := Zd p #[.pointer (some ⟨s, 0, none⟩), .pointer (some ⟨nm, 0, none⟩), .pointer (some ⟨c, 0, none⟩), .pointer (some ⟨x, 0, none⟩), .map (some m)] 101) (a1 := Ju s a V) (a2 := ZN m (.map (mE []) 0)) rfl
 obtain ⟨ss, hK⟩ := H2 hV.g.ok.uniq
 refine Zfd 4 [.pointer (some ⟨s, 0, none⟩)] rfl (by exact Z.ld 0 rfl rfl) ?_
 refine Zfb rfl rfl (H6 _ _ _ ss hV.t hV.g hK.perm hK.le (Z.sel 2 [1, 0] rfl)) rfl ?_
 clear Z; rintro _ w ⟨rfl, Z⟩
 replace Z := Z.n6 L rfl
 refine Ze6 1 rfl <| Ze8 ?_
 as_aux_lemma =>
 refine Zfl rfl (decide_eq_false ((by omega))) ?_
 refine Zfc <| Ze7 <| WC.region ?_
 replace Z := St.exClose (f := Qk p s a V) (L := Zd b2 #[.int .i64 0, .int .u64 0, .int .i64 0, .bool false, .int .i64 0, .int .i64 0, .int .i64 0, .int .i64 0, .int .i64 0, .int .i64 0, .int .i64 0, .slice none 0 0, .slice none 0 0, .slice none 0 0, .slice none 0 0] 35 :: Zd b1 #[.int .i64 1, .int .u64 0, .int .u64 0, .int .i64 0, .int .i64 0, .int .i64 0, .int .i64 0, .int .i64 0, .bool false, .string ⟨#[]⟩, .slice none 0 0, .slice none 0 0, .slice none 0 0] 66 :: XT a A :: L) ⟨nm, c, x, m⟩ ((Z.sel 2 [1, 0] rfl))
 replace Z := Z.n4 L (a0 := U0 p s a V) rfl
 refine Ze6 1 rfl <| Zfy rfl rfl 2 Z rfl rfl Zk <| Zfb rfl rfl (Cv _ _ _ _ _ R hV hrm hla hlen (Z.sel 4 [0, 2, 0, 0] rfl)) rfl ?_
 clear Z; rintro _ w ⟨V1, rfl, Z, f1, f2⟩
 replace Z := Z.n4 L rfl
 refine Zfu rfl rfl rfl 2 Z rfl rfl rfl rfl rfl ZK (fun w Z => ?_)
 replace Z := Z.n4 L (a2 := Zd b2 #[.int .i64 0, .int .u64 V.T.newH, .int .i64 0, .bool false, .int .i64 0, .int .i64 0, .int .i64 0, .int .i64 0, .int .i64 0, .int .i64 0, .int .i64 0, .slice none 0 0, .slice none 0 0, .slice none 0 0, .slice none 0 0] 35) rfl
 refine Ze8 <| Zfa ?_
 refine ⟨[.agg #[.int .i64 0, .int .u64 V.T.newH, .int .i64 0, .bool false, .int .i64 0, .int .i64 0, .int .i64 0, .int .i64 0, .int .i64 0, .int .i64 0, .int .i64 0, .slice none 0 0, .slice none 0 0, .slice none 0 0, .slice none 0 0]], ⟨⟨_, rfl, Z.lvF 2 rfl ZK⟩, trivial⟩, ?_⟩
 replace Z := (Z.sel 4 [0, 0] rfl)
 exact ⟨_, rfl, Z, f1, f2⟩
end Go.Proofs.YtlifpobidhfbfaaGreatDoor
namespace Go.Proofs.YtlifpobidhfbfaaGreatDoor
open Go Go.V
variable {g w : World} {L : List HP}
theorem YC (r n c : Nat) (a : Option Addr) (p e e2 : Int) (Z : St g (Zd r #[.slice a n c, .int .i64 p, .int .i64 e] 79 :: L) w) :
  Sp Tryz.prog 65 [.pointer (some ⟨r, 0, none⟩), .int .i64 e2] w (fun v w' => v = .tuple #[] ∧ St g (Zd r #[.slice a n c, .int .i64 p, .int .i64 (fl e e2)] 79 :: L) w') := by
 refine Sp.enter Tryz.func65 rfl (by kernel_rfl) (by kernel_rfl) ?_
 refine Ze7 <| WC.region <| Zfd 5 [.int .i64 e] rfl (by exact Z.ld 0 rfl rfl) ?_
 refine Ze8 <| Zfe rfl (fun cd1 => ?_) (fun cd1 => ?_)
 ·refine WC.region <| Ze6 4 rfl <| Zfn rfl rfl rfl 0 Z rfl rfl rfl rfl rfl rfl (fun w Z => ?_)
  replace Z : St g (Zd r #[.slice a n c, .int .i64 p, .int .i64 e2] 79 :: L) w := Z
  refine Ze8 ?_
  refine ⟨[], trivial, ?_⟩
  rw [fl, if_pos cd1]; exact ⟨rfl, Z⟩
 ·refine Zfc ?_
  refine ⟨[], trivial, ?_⟩
  rw [fl, if_neg cd1]; exact ⟨rfl, Z⟩
theorem Jf (r n c : Nat) (a : Option Addr) (p : Nat) (e : Int) (h1 : p ≤ n) (h2 : n ≤ 1000000000) (Z : St g (Zd r #[.slice a n c, .int .i64 (p : Int), .int .i64 e] 79 :: L) w) :
  Sp Tryz.prog 69 [.pointer (some ⟨r, 0, none⟩)] w (fun v w' => v = .int .i64 ((n : Int) - (p : Int)) ∧ St g (Zd r #[.slice a n c, .int .i64 (p : Int), .int .i64 e] 79 :: L) w') := by
 refine Sp.enter Tryz.func69 rfl (by kernel_rfl) (by kernel_rfl) ?_
 refine Ze7 <| WC.region <| Ze6 1 rfl <| Ze8 <| Ze7 <| Zfr [([0, 5, 1, 6, 2, 7, 3, 8, 4, 9, 10], none)] (by kernel_rfl) (by kernel_rfl) ?_
 refine Zfp 10 [.slice a n c, .int .i64 (p : Int)] rfl (by exact ⟨Z.ld 0 rfl rfl, Z.ld 0 rfl rfl⟩) ?_
 refine Zf8 12 rfl (ZF (by omega)) ?_
 refine Zfg 1 rfl <| Zfo ?_
 refine Z.dn (fun w Z => ?_)
 refine Zfa ?_
 refine ⟨[.int .i64 ((n : Int) - (p : Int))], rfl, ?_⟩
 exact ⟨rfl, Z⟩
theorem QG (r c : Nat) (a : Option Addr) (bs : List Int) (p : Nat) (e : Int) (hp : p ≤ bs.length) (hl : bs.length ≤ 1000000000) (_hb : B8 bs) (Z : St g (Zd r #[.slice a (Za bs).length c, .int .i64 (p : Int), .int .i64 e] 79 :: Sh 5 1 (Za bs) a c :: L) w) :
  Sp Tryz.prog 68 [.pointer (some ⟨r, 0, none⟩)] w (fun v w' => v = .int .u8 (rB bs p e).1 ∧ St g (Zd r #[.slice a (Za bs).length c, .int .i64 ((rB bs p e).2.1 : Int), .int .i64 (rB bs p e).2.2] 79 :: Sh 5 1 (Za bs) a c :: L) w') := by
 refine Sp.enter Tryz.func68 rfl (by kernel_rfl) (by kernel_rfl) ?_
 refine Ze7 <| WC.region ?_
 have hl8 := Zf bs
 refine Ze6 1 rfl <| Ze8 <| Ze7 <| Ze7 <| WC.region <| Zfd 5 [.int .i64 e] rfl (by exact Z.ld 0 rfl rfl) ?_
 refine Ze8 <| Zfe rfl (fun cd1 => ?_) (fun cd1 => ?_)
 ·refine Ze7 <| WC.region <| Ze6 1 rfl <| Ze8 <| Zfa ?_
  refine ⟨[.int .u8 0], rfl, ?_⟩
  rw [rB, if_pos cd1]; exact ⟨rfl, Z⟩
 ·refine Zfc <| Ze7 <| Ze7 <| WC.region <| Ze6 1 rfl <| Zfb rfl rfl (Jf _ (Za bs).length c a p e (by simp only [Zf]; assumption) (by simp only [Zf]; assumption) Z) rfl ?_
  clear Z; rintro _ w ⟨rfl, Z⟩
  replace Z := Z.n2 L rfl
  refine Ze6 1 rfl <| Ze8 <| Zfe rfl (fun cd2 => ?_) (fun cd2 => ?_)
  ·refine Ze7 <| WC.region <| Ze6 1 rfl <| Zfb rfl rfl (YC _ (Za bs).length c a (p : Int) e 12 Z) rfl ?_
   clear Z; rintro _ w ⟨rfl, Z⟩
   replace Z := Z.n2 L rfl
   refine Ze8 ?_
   as_aux_lemma =>
   refine Ze7 <| WC.region <| Ze6 1 rfl <| Ze8 <| Zfa ?_
   refine ⟨[.int .u8 0], rfl, ?_⟩
   rw [rB, if_neg cd1, show bs[p]? = none from List.getElem?_eq_none (by omega)]; rw [fl, if_pos (Classical.not_not.1 cd1)] at Z; exact ⟨rfl, Z⟩
  ·refine Zfc <| Ze7 <| WC.region <| Zfd 5 [.int .i64 (p : Int)] rfl (by exact Z.ld 0 rfl rfl) ?_
   refine Zfi 17 rfl (ZF (by omega)) ?_
   refine Ze6 2 rfl <| Zfn rfl rfl rfl 0 Z rfl rfl rfl rfl rfl rfl (fun w Z => ?_)
   replace Z := Z.n2 L (a0 := Zd r #[.slice a (Za bs).length c, .int .i64 ((p : Int) + 1), .int .i64 e] 79) rfl
   refine Ze8 ?_
   as_aux_lemma =>
   refine Ze7 <| Zfr [([0, 4, 1, 5, 2, 6, 3, 7, 8], some (9, [])), ([10, 11], none)] (by kernel_rfl) (by kernel_rfl) ?_
   refine Zfp 9 [.slice a (Za bs).length c, .int .i64 ((p : Int) + 1)] rfl (by exact ⟨Z.ld 0 rfl rfl, Z.ld 0 rfl rfl⟩) ?_
   refine Zf8 28 rfl (ZF (by omega)) ?_
   refine WQ.dn Z (fun w Z => ?_)
   obtain ⟨x, hx⟩ : ∃ x, bs[p]? = some x := ⟨_, List.getElem?_eq_getElem (by omega)⟩
   refine Zfw rfl rfl (i := ((p : Int) + 1) - 1) (p) el_33 rfl rfl (by omega) (Zt (ZA hx)) (Z.rdS 1 rfl (ZA hx)).1 ?_
   refine Ze8 ?_
   refine ⟨by exact trivial, ?_⟩
   refine Zfp 2 [.int .u8 x] rfl (by exact (Z.rdS 1 rfl (ZA hx)).2 0 _ rfl) ?_
   refine Zfo ?_
   refine Z.dn (fun w Z => ?_)
   refine Zfa ?_
   refine ⟨[.int .u8 x], rfl, ?_⟩
   rw [rB, if_neg cd1, hx]; rw [Classical.not_not.1 cd1] at Z; exact ⟨rfl, Z⟩
theorem YM (r c : Nat) (a : Option Addr) (bs : List Int) (p : Nat) (e : Int) (hp : p ≤ bs.length) (hl : bs.length ≤ 1000000000) (hb : B8 bs) (Z : St g (Zd r #[.slice a (Za bs).length c, .int .i64 (p : Int), .int .i64 e] 79 :: Sh 5 1 (Za bs) a c :: L) w) :
  Sp Tryz.prog 35 [.pointer (some ⟨r, 0, none⟩)] w (fun v w' => v = .int .u64 (rU bs p e).1 ∧ St g (Zd r #[.slice a (Za bs).length c, .int .i64 ((rU bs p e).2.1 : Int), .int .i64 (rU bs p e).2.2] 79 :: Sh 5 1 (Za bs) a c :: L) w') := by
 refine Sp.enter Tryz.func35 rfl (by kernel_rfl) (by kernel_rfl) ?_
 refine Ze7 <| WC.region <| Ze6 1 rfl <| Ze8 <| Ze7 <| Ze7 <| WC.region ?_
 have hl8 := Zf bs
 refine Zfd 5 [.int .i64 e] rfl (by exact Z.ld 0 rfl rfl) ?_
 refine Ze8 <| Zfe rfl (fun cd1 => ?_) (fun cd1 => ?_)
 ·refine Ze7 <| WC.region <| Ze6 1 rfl <| Ze8 <| Zfa ?_
  refine ⟨[.int .u64 0], rfl, ?_⟩
  rw [rU, if_pos cd1]; exact ⟨rfl, Z⟩
 ·refine Zfc <| Ze7 <| Zfr [([0, 4, 1, 5, 2, 6, 3, 7], some (8, [])), ([9, 10, 11, 12, 13, 14, 15], none)] (by kernel_rfl) (by kernel_rfl) ?_
  refine Zfp 8 [.slice a (Za bs).length c, .int .i64 (p : Int)] rfl (by exact ⟨Z.ld 0 rfl rfl, Z.ld 0 rfl rfl⟩) ?_
  refine WQ.dn Z (fun w Z => ?_)
  refine Zfb rfl rfl (V5 _ _ _ p (by omega) (by omega) (by omega) (Z.sel 2 [1, 0] rfl)) rfl ?_
  clear Z; rintro _ w ⟨rfl, Z⟩
  replace Z := Z.n2 L rfl
  refine Ze8 ?_
  refine ⟨by exact trivial, ?_⟩
  refine Zfg 7 rfl <| Zfo ?_
  refine Z.dn (fun w Z => ?_)
  as_aux_lemma =>
  refine Ze7 <| Ze7 <| WC.region <| Ze6 2 rfl <| Ze8 <| Zfe rfl (fun cd2 => ?_) (fun cd2 => ?_)
  ·refine Ze7 <| WC.region <| Ze6 2 rfl <| Zfb rfl rfl (YC _ (Za bs).length c a (p : Int) e (uv (bs.drop p)).2.2 (Z.sel 2 [1, 0] rfl)) rfl ?_
   clear Z; rintro _ w ⟨rfl, Z⟩
   replace Z := Z.n2 L rfl
   refine Ze8 <| Ze7 <| WC.region <| Ze6 1 rfl <| Ze8 <| Zfa ?_
   refine ⟨[.int .u64 0], rfl, ?_⟩
   have h0 := Classical.not_not.1 cd1
   rw [rU, if_neg cd1, if_neg cd2]; rw [fl, if_pos h0] at Z; exact ⟨rfl, Z⟩
  ·refine Zfc <| Ze7 <| WC.region <| Ze6 4 rfl <| Zfn rfl rfl rfl 1 Z rfl rfl rfl rfl rfl rfl (fun w Z => ?_)
   replace Z := Z.n2 L (a1 := Zd r #[.slice a (Za bs).length c, .int .i64 (if (uv (bs.drop p)).2.2 = 0 then (p : Int) + (uv (bs.drop p)).2.1 else 0), .int .i64 e] 79) rfl
   refine Ze8 <| Ze7 <| WC.region <| Ze6 2 rfl <| Ze8 <| Zfa ?_
   refine ⟨[.int .u64 (uv (bs.drop p)).1], rfl, ?_⟩
   replace Z := (Z.sel 2 [1, 0] rfl)
   have h0 := Classical.not_not.1 cd1; have h1 := Classical.not_not.1 cd2
   rw [rU, if_neg cd1, if_pos h1]; rw [if_pos h1, h0] at Z; exact ⟨rfl, Z⟩
theorem Zq (r c : Nat) (a : Option Addr) (bs : List Int) (p : Nat) (e : Int) (hp : p ≤ bs.length) (hl : bs.length ≤ 1000000000) (hb : B8 bs) (Z : St g (Zd r #[.slice a (Za bs).length c, .int .i64 (p : Int), .int .i64 e] 79 :: Sh 5 1 (Za bs) a c :: L) w) :
  Sp Tryz.prog 36 [.pointer (some ⟨r, 0, none⟩)] w (fun v w' => v = .int .i64 (rZ bs p e).1 ∧ St g (Zd r #[.slice a (Za bs).length c, .int .i64 ((rZ bs p e).2.1 : Int), .int .i64 (rZ bs p e).2.2] 79 :: Sh 5 1 (Za bs) a c :: L) w') := by
 refine Sp.enter Tryz.func36 rfl (by kernel_rfl) (by kernel_rfl) ?_
 refine Ze7 <| WC.region <| Ze6 1 rfl <| Ze8 <| Ze7 <| WC.region <| Ze6 1 rfl <| Zfb rfl rfl (YM _ _ _ _ p e (by assumption) (by assumption) (by assumption) Z) rfl ?_
 generalize hR1 : rU bs p e = R1
 clear Z; rintro _ w ⟨rfl, Z⟩
 have hR1f0 : R1.2.1 ≤ (List.length bs) := by rw [← hR1]; exact H3 (by assumption)
 replace Z := Z.n2 L (a0 := Zd r #[.slice a (Za bs).length c, .int .i64 (R1.2.1 : Int), .int .i64 R1.2.2] 79) rfl
 refine Zfb rfl rfl (C8 R1.1 (by rw [← hR1]; exact C' hb) Z) rfl ?_
 clear Z; rintro _ w ⟨rfl, Z⟩
 replace Z := Z.n2 L rfl
 refine Ze6 1 rfl <| Ze8 <| Zfa ?_
 refine ⟨[.int .i64 (uz R1.1)], rfl, ?_⟩
 unfold rZ; rw [hR1]; exact ⟨rfl, Z⟩
theorem DB (r c : Nat) (a : Option Addr) (bs : List Int) (p : Nat) (e : Int) (hp : p ≤ bs.length) (hl : bs.length ≤ 1000000000) (hb : B8 bs) (Z : St g (Zd r #[.slice a (Za bs).length c, .int .i64 (p : Int), .int .i64 e] 79 :: Sh 5 1 (Za bs) a c :: L) w) :
  Sp Tryz.prog 37 [.pointer (some ⟨r, 0, none⟩)] w (fun v w' => v = .bool (Xo bs p e).1 ∧ St g (Zd r #[.slice a (Za bs).length c, .int .i64 ((Xo bs p e).2.1 : Int), .int .i64 (Xo bs p e).2.2] 79 :: Sh 5 1 (Za bs) a c :: L) w') := by
 refine Sp.enter Tryz.func37 rfl (by kernel_rfl) (by kernel_rfl) ?_
 refine Ze7 <| WC.region <| Ze6 1 rfl <| Ze8 <| Ze7 <| WC.region <| Ze6 1 rfl <| Zfb rfl rfl (QG _ _ _ _ p e (by assumption) (by assumption) (by assumption) Z) rfl ?_
 generalize hR1 : rB bs p e = R1
 clear Z; rintro _ w ⟨rfl, Z⟩
 have hR1f0 : R1.2.1 ≤ (List.length bs) := by rw [← hR1]; exact Zcb (by assumption)
 have hR1f1 : (0 ≤ R1.1) ∧ (R1.1 ≤ 255) := by rw [← hR1]; exact rB_b (by assumption)
 replace Z := Z.n2 L (a0 := Zd r #[.slice a (Za bs).length c, .int .i64 (R1.2.1 : Int), .int .i64 R1.2.2] 79) rfl
 refine Ze6 1 rfl <| Ze8 <| Ze7 <| Ze7 <| WC.region <| Ze6 2 rfl <| Ze8 <| Zfe rfl (fun cd1 => ?_) (fun cd1 => ?_)
 ·refine WC.region <| Ze6 1 rfl <| Zfb rfl rfl (YC _ (Za bs).length c a (R1.2.1 : Int) R1.2.2 13 Z) rfl ?_
  clear Z; rintro _ w ⟨rfl, Z⟩
  replace Z := Z.n2 L rfl
  refine Ze8 ?_
  as_aux_lemma =>
  refine Ze7 <| WC.region <| Ze6 3 rfl <| Ze8 <| Zfa ?_
  refine ⟨[.bool (decide (R1.1 = 1))], rfl, ?_⟩
  subst hR1; unfold Xo; rw [if_pos cd1]; exact ⟨rfl, Z⟩
 ·refine Zfc <| Ze7 <| WC.region <| Ze6 3 rfl <| Ze8 ?_
  as_aux_lemma =>
  refine Zfa ?_
  refine ⟨[.bool (decide (R1.1 = 1))], rfl, ?_⟩
  subst hR1; unfold Xo; rw [if_neg cd1]; exact ⟨rfl, Z⟩
theorem Q5 (r c : Nat) (a : Option Addr) (bs : List Int) (p : Nat) (e : Int) (lim : Int) (hp : p ≤ bs.length) (hl : bs.length ≤ 1000000000) (hb : B8 bs) (hlim : 0 ≤ lim ∧ lim ≤ 9223372036854775807) (Z : St g (Zd r #[.slice a (Za bs).length c, .int .i64 (p : Int), .int .i64 e] 79 :: Sh 5 1 (Za bs) a c :: L) w) :
  Sp Tryz.prog 34 [.pointer (some ⟨r, 0, none⟩), .int .i64 lim] w (fun v w' => v = .int .i64 (Xs bs lim p e).1 ∧ St g (Zd r #[.slice a (Za bs).length c, .int .i64 ((Xs bs lim p e).2.1 : Int), .int .i64 (Xs bs lim p e).2.2] 79 :: Sh 5 1 (Za bs) a c :: L) w') := by
 refine Sp.enter Tryz.func34 rfl (by kernel_rfl) (by kernel_rfl) ?_
 refine Ze7 <| WC.region <| Ze6 1 rfl <| Ze8 <| Ze7 <| WC.region <| Ze6 1 rfl <| Zfb rfl rfl (YM _ _ _ _ p e (by assumption) (by assumption) (by assumption) Z) rfl ?_
 generalize hR1 : rU bs p e = R1
 clear Z; rintro _ w ⟨rfl, Z⟩
 have hR1f0 : R1.2.1 ≤ (List.length bs) := by rw [← hR1]; exact H3 (by assumption)
 replace Z := Z.n2 L (a0 := Zd r #[.slice a (Za bs).length c, .int .i64 (R1.2.1 : Int), .int .i64 R1.2.2] 79) rfl
 refine Ze6 1 rfl <| Ze8 <| Ze7 <| Ze7 <| WC.region ?_
 have hr := C' (p := p) (e := e) hb; rw [hR1] at hr
 refine Ze6 3 rfl <| Zfi 10 rfl (Ye (by omega)) ?_
 refine Ze6 1 rfl <| Ze8 <| Zfe rfl (fun cd1 => ?_) (fun cd1 => ?_)
 ·refine Ze7 <| WC.region <| Ze6 1 rfl <| Zfb rfl rfl (YC _ (Za bs).length c a (R1.2.1 : Int) R1.2.2 13 Z) rfl ?_
  clear Z; rintro _ w ⟨rfl, Z⟩
  replace Z := Z.n2 L rfl
  refine Ze8 ?_
  as_aux_lemma =>
  refine Ze7 <| WC.region <| Ze6 1 rfl <| Ze8 <| Zfa ?_
  refine ⟨[.int .i64 0], rfl, ?_⟩
  subst hR1; unfold Xs; rw [if_pos cd1]; exact ⟨rfl, Z⟩
 ·refine Zfc ?_
  as_aux_lemma =>
  refine Ze7 <| WC.region <| Ze6 2 rfl <| Zfi 15 rfl (ZF (by omega)) ?_
  refine Ze6 1 rfl <| Ze8 <| Zfa ?_
  refine ⟨[.int .i64 R1.1], rfl, ?_⟩
  subst hR1; unfold Xs; rw [if_neg cd1]; exact ⟨rfl, Z⟩
theorem Yw (r c : Nat) (a : Option Addr) (bs : List Int) (p : Nat) (e : Int) (hp : p ≤ bs.length) (hl : bs.length ≤ 1000000000) (hb : B8 bs) (Z : St g (Zd r #[.slice a (Za bs).length c, .int .i64 (p : Int), .int .i64 e] 79 :: Sh 5 1 (Za bs) a c :: L) w) :
  Sp Tryz.prog 39 [.pointer (some ⟨r, 0, none⟩)] w (fun v w' => v = .int .i64 (Yy bs p e).1 ∧ St g (Zd r #[.slice a (Za bs).length c, .int .i64 ((Yy bs p e).2.1 : Int), .int .i64 (Yy bs p e).2.2] 79 :: Sh 5 1 (Za bs) a c :: L) w') := by
 refine Sp.enter Tryz.func39 rfl (by kernel_rfl) (by kernel_rfl) ?_
 refine Ze7 <| WC.region <| Ze6 1 rfl <| Ze8 <| Ze7 <| WC.region <| Ze6 1 rfl <| Zfb rfl rfl (YM _ _ _ _ p e (by assumption) (by assumption) (by assumption) Z) rfl ?_
 generalize hR1 : rU bs p e = R1
 clear Z; rintro _ w ⟨rfl, Z⟩
 have hR1f0 : R1.2.1 ≤ (List.length bs) := by rw [← hR1]; exact H3 (by assumption)
 replace Z := Z.n2 L (a0 := Zd r #[.slice a (Za bs).length c, .int .i64 (R1.2.1 : Int), .int .i64 R1.2.2] 79) rfl
 refine Ze6 1 rfl <| Ze8 <| Ze7 <| Ze7 <| WC.region ?_
 have hr := C' (p := p) (e := e) hb; rw [hR1] at hr; have hl8 := Zf bs
 refine Ze6 2 rfl <| Zfb rfl rfl (Jf _ (Za bs).length c a R1.2.1 R1.2.2 (by simp only [Zf]; assumption) (by simp only [Zf]; assumption) Z) rfl ?_
 clear Z; rintro _ w ⟨rfl, Z⟩
 replace Z := Z.n2 L rfl
 refine Ze6 1 rfl <| Zfi 9 rfl (Ye (by omega)) ?_
 refine Ze6 1 rfl <| Ze8 ?_
 as_aux_lemma =>
 refine Zfe rfl (fun cd1 => ?_) (fun cd1 => ?_)
 ·refine Ze7 <| WC.region <| Ze6 1 rfl <| Zfb rfl rfl (YC _ (Za bs).length c a (R1.2.1 : Int) R1.2.2 12 Z) rfl ?_
  clear Z; rintro _ w ⟨rfl, Z⟩
  replace Z := Z.n2 L rfl
  refine Ze8 <| Ze7 <| WC.region <| Ze6 1 rfl <| Ze8 <| Zfa ?_
  refine ⟨[.int .i64 0], rfl, ?_⟩
  subst hR1; rw [Zf] at cd1; unfold Yy Zv; rw [if_pos cd1]; exact ⟨rfl, Z⟩
 ·refine Zfc <| Ze7 <| WC.region <| Ze6 2 rfl <| Zfi 14 rfl (ZF (by omega)) ?_
  refine Ze6 1 rfl <| Ze8 <| Zfa ?_
  refine ⟨[.int .i64 R1.1], rfl, ?_⟩
  subst hR1; rw [Zf] at cd1; unfold Yy Zv; rw [if_neg cd1]; exact ⟨rfl, Z⟩
end Go.Proofs.YtlifpobidhfbfaaGreatDoor
namespace Go.Proofs.YtlifpobidhfbfaaGreatDoor
open Go Go.V
variable {g w : World} {L : List HP}
theorem U6 (r c : Nat) (a : Option Addr) (bs : List Int) (p : Nat) (e : Int) (n : Int) (hp : p ≤ bs.length) (hl : bs.length ≤ 1000000000) (_hb : B8 bs) (hn : 0 ≤ n ∧ n ≤ 1000000000) (Z : St g (Zd r #[.slice a (Za bs).length c, .int .i64 (p : Int), .int .i64 e] 79 :: Sh 5 1 (Za bs) a c :: L) w) :
  Sp Tryz.prog 41 [.pointer (some ⟨r, 0, none⟩), .int .i64 n] w (fun v w' => ∃ (a2 : Option Addr) (c2 : Nat), v = .slice a2 (Za (Zs bs n.toNat p e).1).length c2 ∧ St g (Zd r #[.slice a (Za bs).length c, .int .i64 ((Zs bs n.toNat p e).2.1 : Int), .int .i64 (Zs bs n.toNat p e).2.2] 79 :: Sh 5 1 (Za bs) a c :: Ze 5 1 (Za (Zs bs n.toNat p e).1) a2 c2 :: L) w') := by
 refine Sp.enter Tryz.func41 rfl (by kernel_rfl) (by kernel_rfl) ?_
 refine Ze7 <| WC.region <| Ze6 1 rfl <| Ze8 <| Ze7 <| Ze7 <| WC.region ?_
 have hl8 := Zf bs
 refine Ze6 2 rfl <| Zfb rfl rfl (Jf _ (Za bs).length c a p e (by simp only [Zf]; assumption) (by simp only [Zf]; assumption) Z) rfl ?_
 clear Z; rintro _ w ⟨rfl, Z⟩
 replace Z := Z.n2 L rfl
 refine Ze6 1 rfl <| Ze8 <| Zfe rfl (fun cd1 => ?_) (fun cd1 => ?_)
 ·refine WC.region <| Ze6 1 rfl <| Zfb rfl rfl (YC _ (Za bs).length c a (p : Int) e 12 Z) rfl ?_
  clear Z; rintro _ w ⟨rfl, Z⟩
  replace Z := Z.n2 L rfl
  refine Ze8 <| Ze7 <| Ze7 <| WC.region <| Zfd 5 [.int .i64 (fl e 12)] rfl (by exact Z.ld 0 rfl rfl) ?_
  refine Zgd 4 rfl (fun j => ?_)
  refine Zf4 20 rfl (Uw (dd _) (dd _)) <| Ze8 ?_
  as_aux_lemma =>
  refine Zfs rfl (decide_eq_true (Or.inl (by unfold fl; split <;> omega))) ?_
  refine Ze7 <| WC.region <| Ze6 1 rfl <| Ze8 <| Zfa ?_
  refine ⟨[.slice none 0 0], rfl, ?_⟩
  replace Z := Z.nil_ 5 1
  replace Z := (Z.sel 3 [1, 1, 0] rfl)
  have hr : Zs bs n.toNat p e = ([], p, fl e 12) := by rw [Zs, if_pos (by omega)]
  rw [hr]; exact ⟨_, _, rfl, Z⟩
 ·refine Zfc <| Ze7 <| Ze7 <| WC.region <| Zfd 5 [.int .i64 e] rfl (by exact Z.ld 0 rfl rfl) ?_
  refine Zgd 4 rfl (fun j => ?_)
  refine Zf4 20 rfl (Uw (dd _) (dd _)) <| Ze8 <| Zfe rfl (fun cd2 => ?_) (fun cd2 => ?_)
  ·refine Ze7 <| WC.region <| Ze6 1 rfl <| Ze8 ?_
   as_aux_lemma =>
   refine Zfa ?_
   refine ⟨[.slice none 0 0], rfl, ?_⟩
   replace Z := Z.nil_ 5 1
   replace Z := (Z.sel 3 [1, 1, 0] rfl)
   have hr : Zs bs n.toNat p e = ([], p, e) := by rw [Zs, if_neg (by omega), if_pos (by omega)]
   rw [hr]; exact ⟨_, _, rfl, Z⟩
  ·refine Zfc ?_
   as_aux_lemma =>
   refine Ze7 <| Zfr [([0, 4, 8, 12, 1, 5, 9, 2, 6, 10, 3, 7, 11, 13], some (14, [])), ([], some (15, [])), ([16], none)] (by kernel_rfl) (by kernel_rfl) ?_
   refine Zfp 14 [.slice a (Za bs).length c, .int .i64 (p : Int), .int .i64 (p : Int)] rfl (by exact ⟨Z.ld 0 rfl rfl, Z.ld 0 rfl rfl, Z.ld 0 rfl rfl⟩) ?_
   refine Zf8 34 rfl (ZF (by omega)) ?_
   refine WQ.dn Z (fun w Z => ?_)
   refine Zg2 rfl rfl (v := (p : Int)) (v' := (p : Int) + n) 1 (p) (p + n.toNat) (Za ((bs.drop p).take n.toNat)) el_33 Z rfl rfl rfl (by omega) rfl (by omega) (by omega) (by omega) (by rw [UV, Uo, List.drop_take]; congr 2; omega) (fun a1 Z => ?_)
   replace Z := Z.n3 L (a0 := Sh 5 1 (Za ((bs.drop p).take n.toNat)) a1 (c - p)) rfl
   refine Ze8 ?_
   refine ⟨by exact trivial, ?_⟩
   refine WQ.dn Z (fun w Z => ?_)
   replace Z := Z.nil_ 5 1
   refine Zfz rfl rfl 0 (Za ((bs.drop p).take n.toNat)) el_33 Z rfl (Z.srcS 1 rfl) (List.nil_append _) (Rm.of (by first | omega | (simp <;> omega)) (by decide)) rfl rfl (fun a2 c1 w Z => ?_)
   replace Z := Z.n4 L (a0 := Ze 5 1 (Za ((bs.drop p).take n.toNat)) a2 c1) rfl
   refine Ze8 ?_
   refine ⟨by exact trivial, ?_⟩
   refine Zfg 1 rfl <| Zfo ?_
   refine Z.dn (fun w Z => ?_)
   refine Ze7 <| WC.region <| Zfd 6 [.int .i64 (p : Int)] rfl (by exact Z.ld 2 rfl rfl) ?_
   refine Zfi 42 rfl (ZF (by omega)) ?_
   refine Ze6 2 rfl <| Zfn rfl rfl rfl 2 Z rfl rfl rfl rfl rfl rfl (fun w Z => ?_)
   replace Z := Z.n4 L (a2 := Zd r #[.slice a (Za bs).length c, .int .i64 ((p : Int) + n), .int .i64 e] 79) rfl
   refine Ze8 ?_
   as_aux_lemma =>
   refine Ze7 <| WC.region <| Ze6 2 rfl <| Ze8 <| Zfa ?_
   refine ⟨[.slice a2 (List.length (Za ((bs.drop p).take n.toNat))) c1], rfl, ?_⟩
   replace Z := (Z.sel 4 [2, 2, 0] rfl)
   have hr : Zs bs n.toNat p e = ((bs.drop p).take n.toNat, p + n.toNat, e) := by rw [Zs, if_neg (by omega), if_neg (by omega)]
   rw [hr]; rw [show (p : Int) + n = ((p + n.toNat : Nat) : Int) by omega] at Z; exact ⟨_, _, rfl, Z⟩
theorem Ug (r c : Nat) (a : Option Addr) (bs : List Int) (p : Nat) (e : Int) (n : Int) (hp : p ≤ bs.length) (hl : bs.length ≤ 1000000000) (hb : B8 bs) (hn : n ≤ 1000000000) (Z : St g (Zd r #[.slice a (Za bs).length c, .int .i64 (p : Int), .int .i64 e] 79 :: Sh 5 1 (Za bs) a c :: L) w) :
  Sp Tryz.prog 38 [.pointer (some ⟨r, 0, none⟩), .int .i64 n] w (fun v w' => ∃ (a2 : Option Addr) (c2 : Nat), v = .slice a2 (Zo (ZJ bs n.toNat p e).1).length c2 ∧ St g (Zd r #[.slice a (Za bs).length c, .int .i64 ((ZJ bs n.toNat p e).2.1 : Int), .int .i64 (ZJ bs n.toNat p e).2.2] 79 :: Sh 5 1 (Za bs) a c :: Ze 27 2 (Zo (ZJ bs n.toNat p e).1) a2 c2 :: L) w') := by
 refine Sp.enter Tryz.func38 rfl (by kernel_rfl) (by kernel_rfl) ?_
 refine Ze7 <| WC.region <| Ze6 1 rfl <| Ze8 <| Ze7 <| WC.region <| Ze6 1 rfl <| Ze8 <| Ze7 <| Ze7 <| WC.region <| Ze6 1 rfl ?_
 refine Ze8 <| Zfj ?_
 replace Z := Z.nil_ 27 2
 refine Zft [0, 1, 4, 5, 6] (fun kM vs w => ∃ (k : Nat) (xs : List (Int × Int)) (q : Nat) (e2 : Int) (a2 : Option Addr) (c2 : Nat), vs = [.pointer (some ⟨r, 0, none⟩), .int .i64 n, .slice none 0 0, .slice a2 (Zo xs).length c2, .int .i64 (k : Int)] ∧ St g (Ze 27 2 (Zo xs) a2 c2 :: Zd r #[.slice a (Za bs).length c, .int .i64 (q : Int), .int .i64 e2] 79 :: Sh 5 1 (Za bs) a c :: L) w ∧ ((k : Int) ≤ n ∨ k = 0) ∧ (xs.length = k) ∧ (q ≤ bs.length) ∧ (ZJ bs n.toNat p e = (xs ++ (ZJ bs (n.toNat - k) q e2).1, (ZJ bs (n.toNat - k) q e2).2)) ∧ (n.toNat - k) = kM) (n.toNat - 0) ⟨0, [], p, e, none, 0, rfl, Z, (by omega), (rfl), (by assumption), (rfl), rfl⟩ ?_
 clear Z; rintro _ _ w j ⟨k, xs, q, e2, a2, c2, rfl, Z, hk, hx, hq, hr, rfl⟩
 refine Ze7 <| Ze7 <| WC.region <| Ze6 3 rfl <| Zge 7 [.int .i64 e2] rfl (by exact (fun _ => Z.ld 1 rfl rfl)) (fun j => ?_)
 refine Zf4 17 rfl (Ya (dd _) (dd _)) <| Ze8 ?_
 as_aux_lemma =>
 refine Zfe rfl (fun cd1 => ?_) (fun cd1 => ?_)
 ·refine Zfc <| Ze7 <| Zfj <| Ze7 <| WC.region <| Ze6 1 rfl <| Zfb rfl rfl (Zq _ _ _ _ q e2 (by assumption) (by assumption) (by assumption) (Z.sel 3 [1, 1, 0] rfl)) rfl ?_
  generalize hR1 : rZ bs q e2 = R1
  clear Z; rintro _ w ⟨rfl, Z⟩
  have hR1f0 : R1.2.1 ≤ (List.length bs) := by rw [← hR1]; exact YK (by assumption)
  replace Z := Z.n3 L (a0 := Zd r #[.slice a (Za bs).length c, .int .i64 (R1.2.1 : Int), .int .i64 R1.2.2] 79) rfl
  refine Ze6 1 rfl <| Ze8 <| WC.region <| Ze6 3 rfl <| Zfb rfl rfl (Zq _ _ _ _ R1.2.1 R1.2.2 (by assumption) (by assumption) (by assumption) Z) rfl ?_
  generalize hR2 : rZ bs R1.2.1 R1.2.2 = R2
  clear Z; rintro _ w ⟨rfl, Z⟩
  have hR2f0 : R2.2.1 ≤ (List.length bs) := by rw [← hR2]; exact YK (by assumption)
  replace Z := Z.n3 L (a0 := Zd r #[.slice a (Za bs).length c, .int .i64 (R2.2.1 : Int), .int .i64 R2.2.2] 79) rfl
  refine Zf7 rfl rfl (cs := [.int .i64 R1.1, .int .i64 R2.1]) Zb5 rfl rfl <| Zf3 rfl rfl (Zo [(R1.1, R2.1)]) el_30 Z (by exact ⟨rfl, rfl⟩) (Zdw _) rfl (Nat.le_of_ble_eq_true rfl) (fun b1 w Z => ?_)
  refine Zfz rfl rfl 3 (Zo (xs ++ [(R1.1, R2.1)])) el_30 Z rfl (Z.srcO 0 rfl) (Zaf _ _).symm (Rm.of (by first | omega | (simp <;> omega)) (by decide)) rfl rfl (fun a1 c1 w Z => ?_)
  replace Z := Z.n4 L (a0 := Ze 27 2 (Zo [(R1.1, R2.1)]) (some ⟨b1, 0, none⟩) (Zo [(R1.1, R2.1)]).length) (a3 := Ze 27 2 (Zo (xs ++ [(R1.1, R2.1)])) a1 c1) rfl
  refine Ze6 1 rfl <| Ze8 ?_
  as_aux_lemma =>
  refine WC.region <| Ze6 2 rfl <| Zfi 19 rfl (ZF (by omega)) ?_
  refine Ze6 1 rfl <| Ze8 ?_
  exact ⟨_, by omega, k + 1, xs ++ [(R1.1, R2.1)], R2.2.1, R2.2.2, _, _, rfl, (Z.sel 4 [3, 1, 1] rfl), (by omega), (by simp [hx]), (by assumption), (by rw [hr, show n.toNat - k = (n.toNat - (k + 1)) + 1 by omega, ZJ, if_neg (by simp [cd1.2])]; subst hR1 hR2; simp), rfl⟩
 ·refine Zfv <| Ze7 <| WC.region <| Ze6 2 rfl <| Ze8 <| Zfa ?_
  refine ⟨[.slice a2 (Zo xs).length c2], rfl, ?_⟩
  replace Z := (Z.sel 3 [1, 1, 0] rfl)
  have hr2 : ZJ bs n.toNat p e = (xs, q, e2) := by
   rw [hr]
   rcases Nat.eq_zero_or_pos (n.toNat - k) with h | h
   ·rw [h]; simp [ZJ]
   ·rw [Jz (by omega)]; simp
  rw [hr2]; exact ⟨_, _, rfl, Z⟩
theorem Q0 (r c : Nat) (a : Option Addr) (bs : List Int) (p : Nat) (e : Int) (n : Int) (hp : p ≤ bs.length) (hl : bs.length ≤ 1000000000) (hb : B8 bs) (hn : n ≤ 1000000000) (Z : St g (Zd r #[.slice a (Za bs).length c, .int .i64 (p : Int), .int .i64 e] 79 :: Sh 5 1 (Za bs) a c :: L) w) :
  Sp Tryz.prog 40 [.pointer (some ⟨r, 0, none⟩), .int .i64 n] w (fun v w' => ∃ (a2 : Option Addr) (c2 : Nat), v = .slice a2 (Zn (Z7 bs n.toNat p e).1).length c2 ∧ St g (Zd r #[.slice a (Za bs).length c, .int .i64 ((Z7 bs n.toNat p e).2.1 : Int), .int .i64 (Z7 bs n.toNat p e).2.2] 79 :: Sh 5 1 (Za bs) a c :: Ze 88 4 (Zn (Z7 bs n.toNat p e).1) a2 c2 :: L) w') := by
 refine Sp.enter Tryz.func40 rfl (by kernel_rfl) (by kernel_rfl) ?_
 refine Ze7 <| WC.region <| Ze6 1 rfl <| Ze8 <| Ze7 <| WC.region <| Ze6 1 rfl <| Ze8 <| Ze7 <| Ze7 <| WC.region <| Ze6 1 rfl ?_
 refine Ze8 <| Zfj ?_
 replace Z := Z.nil_ 88 4
 refine Zft [0, 1, 4, 5, 6] (fun kM vs w => ∃ (k : Nat) (xs : List (Int × Int × Int × Int)) (q : Nat) (e2 : Int) (a2 : Option Addr) (c2 : Nat), vs = [.pointer (some ⟨r, 0, none⟩), .int .i64 n, .slice none 0 0, .slice a2 (Zn xs).length c2, .int .i64 (k : Int)] ∧ St g (Ze 88 4 (Zn xs) a2 c2 :: Zd r #[.slice a (Za bs).length c, .int .i64 (q : Int), .int .i64 e2] 79 :: Sh 5 1 (Za bs) a c :: L) w ∧ ((k : Int) ≤ n ∨ k = 0) ∧ (xs.length = k) ∧ (q ≤ bs.length) ∧ (Z7 bs n.toNat p e = (xs ++ (Z7 bs (n.toNat - k) q e2).1, (Z7 bs (n.toNat - k) q e2).2)) ∧ (n.toNat - k) = kM) (n.toNat - 0) ⟨0, [], p, e, none, 0, rfl, Z, (by omega), (rfl), (by assumption), (rfl), rfl⟩ ?_
 clear Z; rintro _ _ w j ⟨k, xs, q, e2, a2, c2, rfl, Z, hk, hx, hq, hr, rfl⟩
 refine Ze7 <| Ze7 <| WC.region <| Ze6 3 rfl <| Zge 7 [.int .i64 e2] rfl (by exact (fun _ => Z.ld 1 rfl rfl)) (fun j => ?_)
 refine Zf4 17 rfl (Ya (dd _) (dd _)) <| Ze8 ?_
 as_aux_lemma =>
 refine Zfe rfl (fun cd1 => ?_) (fun cd1 => ?_)
 ·refine Zfc <| Ze7 <| Zfj <| Ze7 <| WC.region <| Ze6 1 rfl <| Zfb rfl rfl (QG _ _ _ _ q e2 (by assumption) (by assumption) (by assumption) (Z.sel 3 [1, 1, 0] rfl)) rfl ?_
  generalize hR1 : rB bs q e2 = R1
  clear Z; rintro _ w ⟨rfl, Z⟩
  have hR1f0 : R1.2.1 ≤ (List.length bs) := by rw [← hR1]; exact Zcb (by assumption)
  have hR1f1 : (0 ≤ R1.1) ∧ (R1.1 ≤ 255) := by rw [← hR1]; exact rB_b (by assumption)
  replace Z := Z.n3 L (a0 := Zd r #[.slice a (Za bs).length c, .int .i64 (R1.2.1 : Int), .int .i64 R1.2.2] 79) rfl
  refine Ze6 1 rfl <| Zfi 22 rfl (ZF (by omega)) ?_
  refine Zf7 rfl rfl (cs := [.int .i64 R1.1, .int .i64 0, .int .i64 0, .int .i64 0]) HR rfl rfl <| Zf5 rfl rfl HR Z (fun b1 w Z => ?_)
  refine Zfu rfl rfl rfl 0 Z rfl rfl rfl rfl rfl Jt (fun w Z => ?_)
  replace Z := Z.n4 L (a0 := Zd b1 #[.int .i64 R1.1, .int .i64 0, .int .i64 0, .int .i64 0] 88) rfl
  refine Ze8 <| Ze7 <| WC.region <| Ze6 1 rfl <| Zfb rfl rfl (Zq _ _ _ _ R1.2.1 R1.2.2 (by assumption) (by assumption) (by assumption) (Z.sel 3 [1, 1, 0] rfl)) rfl ?_
  generalize hR2 : rZ bs R1.2.1 R1.2.2 = R2
  clear Z; rintro _ w ⟨rfl, Z⟩
  have hR2f0 : R2.2.1 ≤ (List.length bs) := by rw [← hR2]; exact YK (by assumption)
  replace Z := Z.n4 L (a0 := Zd r #[.slice a (Za bs).length c, .int .i64 (R2.2.1 : Int), .int .i64 R2.2.2] 79) rfl
  refine Ze6 1 rfl <| Zfn rfl rfl rfl 2 Z rfl rfl rfl rfl rfl rfl (fun w Z => ?_)
  replace Z := Z.n4 L (a2 := Zd b1 #[.int .i64 R1.1, .int .i64 R2.1, .int .i64 0, .int .i64 0] 88) rfl
  refine Ze8 ?_
  as_aux_lemma =>
  refine Ze7 <| WC.region <| Ze6 1 rfl <| Zfb rfl rfl (Zq _ _ _ _ R2.2.1 R2.2.2 (by assumption) (by assumption) (by assumption) Z) rfl ?_
  generalize hR3 : rZ bs R2.2.1 R2.2.2 = R3
  clear Z; rintro _ w ⟨rfl, Z⟩
  have hR3f0 : R3.2.1 ≤ (List.length bs) := by rw [← hR3]; exact YK (by assumption)
  replace Z := Z.n4 L (a0 := Zd r #[.slice a (Za bs).length c, .int .i64 (R3.2.1 : Int), .int .i64 R3.2.2] 79) rfl
  refine Ze6 1 rfl <| Zfn rfl rfl rfl 2 Z rfl rfl rfl rfl rfl rfl (fun w Z => ?_)
  replace Z := Z.n4 L (a2 := Zd b1 #[.int .i64 R1.1, .int .i64 R2.1, .int .i64 R3.1, .int .i64 0] 88) rfl
  refine Ze8 <| Ze7 <| WC.region <| Ze6 1 rfl <| Zfb rfl rfl (Zq _ _ _ _ R3.2.1 R3.2.2 (by assumption) (by assumption) (by assumption) Z) rfl ?_
  generalize hR4 : rZ bs R3.2.1 R3.2.2 = R4
  clear Z; rintro _ w ⟨rfl, Z⟩
  have hR4f0 : R4.2.1 ≤ (List.length bs) := by rw [← hR4]; exact YK (by assumption)
  replace Z := Z.n4 L (a0 := Zd r #[.slice a (Za bs).length c, .int .i64 (R4.2.1 : Int), .int .i64 R4.2.2] 79) rfl
  refine Ze6 1 rfl <| Zfn rfl rfl rfl 2 Z rfl rfl rfl rfl rfl rfl (fun w Z => ?_)
  replace Z := Z.n4 L (a2 := Zd b1 #[.int .i64 R1.1, .int .i64 R2.1, .int .i64 R3.1, .int .i64 R4.1] 88) rfl
  refine Ze8 <| WC.region <| Ze6 1 rfl <| Zfy rfl rfl 2 Z rfl rfl Jt <| Zf3 rfl rfl (Zn [(R1.1, R2.1, R3.1, R4.1)]) el_31 Z (by exact ⟨rfl, rfl⟩) (Zd6 _) rfl (Nat.le_of_ble_eq_true rfl) (fun b2 w Z => ?_)
  refine Zfz rfl rfl 4 (Zn (xs ++ [(R1.1, R2.1, R3.1, R4.1)])) el_31 Z rfl (Z.srcO 0 rfl) (Zbl _ _).symm (Rm.of (by first | omega | (simp <;> omega)) (by decide)) rfl rfl (fun a1 c1 w Z => ?_)
  replace Z := Z.n5 L (a0 := Ze 88 4 (Zn [(R1.1, R2.1, R3.1, R4.1)]) (some ⟨b2, 0, none⟩) (Zn [(R1.1, R2.1, R3.1, R4.1)]).length) (a4 := Ze 88 4 (Zn (xs ++ [(R1.1, R2.1, R3.1, R4.1)])) a1 c1) rfl
  refine Ze6 1 rfl <| Ze8 ?_
  as_aux_lemma =>
  refine WC.region <| Ze6 2 rfl <| Zfi 19 rfl (ZF (by omega)) ?_
  refine Ze6 1 rfl <| Ze8 ?_
  exact ⟨_, by omega, k + 1, xs ++ [(R1.1, R2.1, R3.1, R4.1)], R4.2.1, R4.2.2, _, _, rfl, (Z.sel 5 [4, 1, 1] rfl), (by omega), (by simp [hx]), (by assumption), (by rw [hr, show n.toNat - k = (n.toNat - (k + 1)) + 1 by omega, Z7, if_neg (by simp [cd1.2])]; subst hR1 hR2 hR3 hR4; simp), rfl⟩
 ·refine Zfv <| Ze7 <| WC.region <| Ze6 2 rfl <| Ze8 <| Zfa ?_
  refine ⟨[.slice a2 (Zn xs).length c2], rfl, ?_⟩
  replace Z := (Z.sel 3 [1, 1, 0] rfl)
  have hr2 : Z7 bs n.toNat p e = (xs, q, e2) := by
   rw [hr]
   rcases Nat.eq_zero_or_pos (n.toNat - k) with h | h
   ·rw [h]; simp [Z7]
   ·rw [Jg (by omega)]; simp
  rw [hr2]; exact ⟨_, _, rfl, Z⟩
end Go.Proofs.YtlifpobidhfbfaaGreatDoor
namespace Go.Proofs.YtlifpobidhfbfaaGreatDoor
open Go Go.V
variable {g w : World} {L : List HP}
theorem Xj (a : Option Addr) (c : Nat) (bs : List Int) (p : Int) (hl : bs.length ≤ 1000000000) (hb : B8 bs) (Z : St g (Sh 5 1 (Za bs) a c :: L) w) :
  Sp Tryz.prog 14 [.slice a (Za bs).length c, .int .i64 p] w (fun v w' => ∃ (ab ae ac ak : Option Addr) (cb ce cc ck : Nat), v = .tuple #[.agg #[.int .i64 (ZH bs p).1.err, .int .u64 (ZH bs p).1.handle, .int .i64 (ZH bs p).1.value, .bool (ZH bs p).1.found, .int .i64 (ZH bs p).1.n, .int .i64 (ZH bs p).1.ekey, .int .i64 (ZH bs p).1.eval, .int .i64 (ZH bs p).1.count, .int .i64 (ZH bs p).1.sum, .int .i64 (ZH bs p).1.mn, .int .i64 (ZH bs p).1.mx, .slice ae (Zo (ZH bs p).1.ents).length ce, .slice ac (Zn (ZH bs p).1.chs).length cc, .slice ak (Zb (ZH bs p).1.keys).length ck, .slice ab (Za (ZH bs p).1.bytes).length cb], .int .i64 (ZH bs p).2.1, .int .i64 (ZH bs p).2.2] ∧ St g (Sh 5 1 (Za bs) a c :: Ze 5 1 (Za (ZH bs p).1.bytes) ab cb :: Ze 27 2 (Zo (ZH bs p).1.ents) ae ce :: Ze 88 4 (Zn (ZH bs p).1.chs) ac cc :: Ze 2 1 (Zb (ZH bs p).1.keys) ak ck :: L) w') := by
 refine Sp.enter Tryz.func14 rfl (by kernel_rfl) (by kernel_rfl) ?_
 refine Ze7 <| WC.region <| Zf5 rfl rfl Xk Z (fun b1 w Z => ?_)
 refine Ze6 2 rfl <| Ze8 <| Ze7 <| Ze7 <| WC.region <| Ze6 2 rfl <| Zgd 6 rfl (fun j => ?_)
 refine Zf4 17 rfl (Uw (dd _) (dd _)) <| Ze8 <| Zfe rfl (fun cd1 => ?_) (fun cd1 => ?_)
 ·refine Ze7 <| WC.region ?_
  have hl8 := Zf bs
  refine Zf7 rfl rfl (cs := [.int .i64 0, .int .u64 0, .int .i64 0, .bool false, .int .i64 0, .int .i64 0, .int .i64 0, .int .i64 0, .int .i64 0, .int .i64 0, .int .i64 0, .slice none 0 0, .slice none 0 0, .slice none 0 0, .slice none 0 0]) Xk rfl rfl <| Zfu rfl rfl rfl 0 Z rfl rfl rfl rfl rfl ZK (fun w Z => ?_)
  replace Z := Z.n2 L (a0 := Zd b1 #[.int .i64 0, .int .u64 0, .int .i64 0, .bool false, .int .i64 0, .int .i64 0, .int .i64 0, .int .i64 0, .int .i64 0, .int .i64 0, .int .i64 0, .slice none 0 0, .slice none 0 0, .slice none 0 0, .slice none 0 0] 35) rfl
  refine Ze6 2 rfl <| Ze8 <| Zfa ?_
  refine ⟨[.agg #[.int .i64 0, .int .u64 0, .int .i64 0, .bool false, .int .i64 0, .int .i64 0, .int .i64 0, .int .i64 0, .int .i64 0, .int .i64 0, .int .i64 0, .slice none 0 0, .slice none 0 0, .slice none 0 0, .slice none 0 0], .int .i64 0, .int .i64 1], ⟨⟨_, rfl, Z.lvF 0 rfl ZK⟩, rfl, rfl⟩, ?_⟩
  replace Z := Z.nil_ 5 1
  replace Z := Z.nil_ 27 2
  replace Z := Z.nil_ 88 4
  replace Z := Z.nil_ 2 1
  replace Z := (Z.sel 6 [5, 3, 2, 1, 0] rfl)
  rw [Zf] at cd1; rw [ZH, if_pos cd1]; exact ⟨_, _, _, _, _, _, _, _, rfl, Z⟩
 ·refine Zfc <| Ze7 <| WC.region ?_
  obtain ⟨q0, rfl⟩ : ∃ q : Nat, p = q := ⟨p.toNat, by omega⟩; have hl8 := Zf bs; have hp : q0 ≤ bs.length := by omega
  refine Ze6 2 rfl <| Zf7 rfl rfl (cs := [.slice a (Za bs).length c, .int .i64 (q0 : Int), .int .i64 0]) Zcf rfl rfl <| Zf0 rfl rfl #[.slice a (Za bs).length c, .int .i64 (q0 : Int), .int .i64 0] Z rfl rfl (fun b2 w Z => ?_)
  refine Ze6 1 rfl <| Ze8 <| Ze7 <| WC.region <| Ze6 1 rfl <| Zfb rfl rfl (Q5 _ _ _ _ q0 0 255 (by assumption) (by assumption) (by assumption) (by omega) (Z.sel 3 [0, 1, 0] rfl)) rfl ?_
  generalize hR1 : Xs bs 255 q0 0 = R1
  clear Z; rintro _ w ⟨rfl, Z⟩
  have hR1f0 : R1.2.1 ≤ (List.length bs) := by rw [← hR1]; exact Zar (by assumption)
  have hR1f1 : (0 ≤ R1.1) ∧ (R1.1 ≤ 255) := by rw [← hR1]; exact Zen (by assumption) (by omega)
  replace Z := Z.n3 L (a0 := Zd b2 #[.slice a (Za bs).length c, .int .i64 (R1.2.1 : Int), .int .i64 R1.2.2] 79) (a2 := Zd b1 #[.int .i64 0, .int .u64 0, .int .i64 0, .bool false, .int .i64 0, .int .i64 0, .int .i64 0, .int .i64 0, .int .i64 0, .int .i64 0, .int .i64 0, .slice none 0 0, .slice none 0 0, .slice none 0 0, .slice none 0 0] 35) rfl
  refine Zf7 rfl rfl (cs := [.int .i64 R1.1, .int .u64 0, .int .i64 0, .bool false, .int .i64 0, .int .i64 0, .int .i64 0, .int .i64 0, .int .i64 0, .int .i64 0, .int .i64 0, .slice none 0 0, .slice none 0 0, .slice none 0 0, .slice none 0 0]) Xk rfl rfl <| Zf5 rfl rfl Xk Z (fun b3 w Z => ?_)
  refine Zfu rfl rfl rfl 0 Z rfl rfl rfl rfl rfl ZK (fun w Z => ?_)
  replace Z := Z.n4 L (a0 := Zd b3 #[.int .i64 R1.1, .int .u64 0, .int .i64 0, .bool false, .int .i64 0, .int .i64 0, .int .i64 0, .int .i64 0, .int .i64 0, .int .i64 0, .int .i64 0, .slice none 0 0, .slice none 0 0, .slice none 0 0, .slice none 0 0] 35) rfl
  refine Ze8 ?_
  as_aux_lemma =>
  refine Ze7 <| WC.region <| Ze6 1 rfl <| Zfb rfl rfl (YM _ _ _ _ R1.2.1 R1.2.2 (by assumption) (by assumption) (by assumption) (Z.sel 3 [1, 1, 0] rfl)) rfl ?_
  generalize hR2 : rU bs R1.2.1 R1.2.2 = R2
  clear Z; rintro _ w ⟨rfl, Z⟩
  have hR2f0 : R2.2.1 ≤ (List.length bs) := by rw [← hR2]; exact H3 (by assumption)
  replace Z := Z.n4 L (a0 := Zd b2 #[.slice a (Za bs).length c, .int .i64 (R2.2.1 : Int), .int .i64 R2.2.2] 79) rfl
  refine Ze6 1 rfl <| Zfn rfl rfl rfl 2 Z rfl rfl rfl rfl rfl rfl (fun w Z => ?_)
  replace Z := Z.n4 L (a2 := Zd b3 #[.int .i64 R1.1, .int .u64 R2.1, .int .i64 0, .bool false, .int .i64 0, .int .i64 0, .int .i64 0, .int .i64 0, .int .i64 0, .int .i64 0, .int .i64 0, .slice none 0 0, .slice none 0 0, .slice none 0 0, .slice none 0 0] 35) rfl
  refine Ze8 <| Ze7 <| WC.region <| Ze6 1 rfl <| Zfb rfl rfl (Zq _ _ _ _ R2.2.1 R2.2.2 (by assumption) (by assumption) (by assumption) Z) rfl ?_
  generalize hR3 : rZ bs R2.2.1 R2.2.2 = R3
  clear Z; rintro _ w ⟨rfl, Z⟩
  have hR3f0 : R3.2.1 ≤ (List.length bs) := by rw [← hR3]; exact YK (by assumption)
  replace Z := Z.n4 L (a0 := Zd b2 #[.slice a (Za bs).length c, .int .i64 (R3.2.1 : Int), .int .i64 R3.2.2] 79) rfl
  refine Ze6 1 rfl <| Zfn rfl rfl rfl 2 Z rfl rfl rfl rfl rfl rfl (fun w Z => ?_)
  replace Z := Z.n4 L (a2 := Zd b3 #[.int .i64 R1.1, .int .u64 R2.1, .int .i64 R3.1, .bool false, .int .i64 0, .int .i64 0, .int .i64 0, .int .i64 0, .int .i64 0, .int .i64 0, .int .i64 0, .slice none 0 0, .slice none 0 0, .slice none 0 0, .slice none 0 0] 35) rfl
  refine Ze8 <| Ze7 <| WC.region <| Ze6 1 rfl <| Zfb rfl rfl (DB _ _ _ _ R3.2.1 R3.2.2 (by assumption) (by assumption) (by assumption) Z) rfl ?_
  generalize hR4 : Xo bs R3.2.1 R3.2.2 = R4
  clear Z; rintro _ w ⟨rfl, Z⟩
  have hR4f0 : R4.2.1 ≤ (List.length bs) := by rw [← hR4]; exact Ct (by assumption)
  replace Z := Z.n4 L (a0 := Zd b2 #[.slice a (Za bs).length c, .int .i64 (R4.2.1 : Int), .int .i64 R4.2.2] 79) rfl
  refine Ze6 1 rfl <| Zfn rfl rfl rfl 2 Z rfl rfl rfl rfl rfl rfl (fun w Z => ?_)
  replace Z := Z.n4 L (a2 := Zd b3 #[.int .i64 R1.1, .int .u64 R2.1, .int .i64 R3.1, .bool R4.1, .int .i64 0, .int .i64 0, .int .i64 0, .int .i64 0, .int .i64 0, .int .i64 0, .int .i64 0, .slice none 0 0, .slice none 0 0, .slice none 0 0, .slice none 0 0] 35) rfl
  refine Ze8 ?_
  as_aux_lemma =>
  refine Ze7 <| WC.region <| Ze6 1 rfl <| Zfb rfl rfl (Zq _ _ _ _ R4.2.1 R4.2.2 (by assumption) (by assumption) (by assumption) Z) rfl ?_
  generalize hR5 : rZ bs R4.2.1 R4.2.2 = R5
  clear Z; rintro _ w ⟨rfl, Z⟩
  have hR5f0 : R5.2.1 ≤ (List.length bs) := by rw [← hR5]; exact YK (by assumption)
  replace Z := Z.n4 L (a0 := Zd b2 #[.slice a (Za bs).length c, .int .i64 (R5.2.1 : Int), .int .i64 R5.2.2] 79) rfl
  refine Ze6 1 rfl <| Zfn rfl rfl rfl 2 Z rfl rfl rfl rfl rfl rfl (fun w Z => ?_)
  replace Z := Z.n4 L (a2 := Zd b3 #[.int .i64 R1.1, .int .u64 R2.1, .int .i64 R3.1, .bool R4.1, .int .i64 R5.1, .int .i64 0, .int .i64 0, .int .i64 0, .int .i64 0, .int .i64 0, .int .i64 0, .slice none 0 0, .slice none 0 0, .slice none 0 0, .slice none 0 0] 35) rfl
  refine Ze8 <| Ze7 <| WC.region <| Ze6 1 rfl <| Zfb rfl rfl (Zq _ _ _ _ R5.2.1 R5.2.2 (by assumption) (by assumption) (by assumption) Z) rfl ?_
  generalize hR6 : rZ bs R5.2.1 R5.2.2 = R6
  clear Z; rintro _ w ⟨rfl, Z⟩
  have hR6f0 : R6.2.1 ≤ (List.length bs) := by rw [← hR6]; exact YK (by assumption)
  replace Z := Z.n4 L (a0 := Zd b2 #[.slice a (Za bs).length c, .int .i64 (R6.2.1 : Int), .int .i64 R6.2.2] 79) rfl
  refine Ze6 2 rfl <| Zfn rfl rfl rfl 2 Z rfl rfl rfl rfl rfl rfl (fun w Z => ?_)
  replace Z := Z.n4 L (a2 := Zd b3 #[.int .i64 R1.1, .int .u64 R2.1, .int .i64 R3.1, .bool R4.1, .int .i64 R5.1, .int .i64 R6.1, .int .i64 0, .int .i64 0, .int .i64 0, .int .i64 0, .int .i64 0, .slice none 0 0, .slice none 0 0, .slice none 0 0, .slice none 0 0] 35) rfl
  refine Ze8 <| Ze7 <| WC.region <| Ze6 1 rfl <| Zfb rfl rfl (Zq _ _ _ _ R6.2.1 R6.2.2 (by assumption) (by assumption) (by assumption) Z) rfl ?_
  generalize hR7 : rZ bs R6.2.1 R6.2.2 = R7
  clear Z; rintro _ w ⟨rfl, Z⟩
  have hR7f0 : R7.2.1 ≤ (List.length bs) := by rw [← hR7]; exact YK (by assumption)
  replace Z := Z.n4 L (a0 := Zd b2 #[.slice a (Za bs).length c, .int .i64 (R7.2.1 : Int), .int .i64 R7.2.2] 79) rfl
  refine Ze6 2 rfl <| Zfn rfl rfl rfl 2 Z rfl rfl rfl rfl rfl rfl (fun w Z => ?_)
  replace Z := Z.n4 L (a2 := Zd b3 #[.int .i64 R1.1, .int .u64 R2.1, .int .i64 R3.1, .bool R4.1, .int .i64 R5.1, .int .i64 R6.1, .int .i64 R7.1, .int .i64 0, .int .i64 0, .int .i64 0, .int .i64 0, .slice none 0 0, .slice none 0 0, .slice none 0 0, .slice none 0 0] 35) rfl
  refine Ze8 ?_
  as_aux_lemma =>
  refine Ze7 <| WC.region <| Ze6 1 rfl <| Zfb rfl rfl (Zq _ _ _ _ R7.2.1 R7.2.2 (by assumption) (by assumption) (by assumption) Z) rfl ?_
  generalize hR8 : rZ bs R7.2.1 R7.2.2 = R8
  clear Z; rintro _ w ⟨rfl, Z⟩
  have hR8f0 : R8.2.1 ≤ (List.length bs) := by rw [← hR8]; exact YK (by assumption)
  replace Z := Z.n4 L (a0 := Zd b2 #[.slice a (Za bs).length c, .int .i64 (R8.2.1 : Int), .int .i64 R8.2.2] 79) rfl
  refine Ze6 2 rfl <| Zfn rfl rfl rfl 2 Z rfl rfl rfl rfl rfl rfl (fun w Z => ?_)
  replace Z := Z.n4 L (a2 := Zd b3 #[.int .i64 R1.1, .int .u64 R2.1, .int .i64 R3.1, .bool R4.1, .int .i64 R5.1, .int .i64 R6.1, .int .i64 R7.1, .int .i64 R8.1, .int .i64 0, .int .i64 0, .int .i64 0, .slice none 0 0, .slice none 0 0, .slice none 0 0, .slice none 0 0] 35) rfl
  refine Ze8 <| Ze7 <| WC.region <| Ze6 1 rfl <| Zfb rfl rfl (Zq _ _ _ _ R8.2.1 R8.2.2 (by assumption) (by assumption) (by assumption) Z) rfl ?_
  generalize hR9 : rZ bs R8.2.1 R8.2.2 = R9
  clear Z; rintro _ w ⟨rfl, Z⟩
  have hR9f0 : R9.2.1 ≤ (List.length bs) := by rw [← hR9]; exact YK (by assumption)
  replace Z := Z.n4 L (a0 := Zd b2 #[.slice a (Za bs).length c, .int .i64 (R9.2.1 : Int), .int .i64 R9.2.2] 79) rfl
  refine Ze6 2 rfl <| Zfn rfl rfl rfl 2 Z rfl rfl rfl rfl rfl rfl (fun w Z => ?_)
  replace Z := Z.n4 L (a2 := Zd b3 #[.int .i64 R1.1, .int .u64 R2.1, .int .i64 R3.1, .bool R4.1, .int .i64 R5.1, .int .i64 R6.1, .int .i64 R7.1, .int .i64 R8.1, .int .i64 R9.1, .int .i64 0, .int .i64 0, .slice none 0 0, .slice none 0 0, .slice none 0 0, .slice none 0 0] 35) rfl
  refine Ze8 <| Ze7 <| WC.region <| Ze6 1 rfl <| Zfb rfl rfl (Zq _ _ _ _ R9.2.1 R9.2.2 (by assumption) (by assumption) (by assumption) Z) rfl ?_
  generalize hR10 : rZ bs R9.2.1 R9.2.2 = R10
  clear Z; rintro _ w ⟨rfl, Z⟩
  have hR10f0 : R10.2.1 ≤ (List.length bs) := by rw [← hR10]; exact YK (by assumption)
  replace Z := Z.n4 L (a0 := Zd b2 #[.slice a (Za bs).length c, .int .i64 (R10.2.1 : Int), .int .i64 R10.2.2] 79) rfl
  refine Ze6 2 rfl <| Zfn rfl rfl rfl 2 Z rfl rfl rfl rfl rfl rfl (fun w Z => ?_)
  replace Z := Z.n4 L (a2 := Zd b3 #[.int .i64 R1.1, .int .u64 R2.1, .int .i64 R3.1, .bool R4.1, .int .i64 R5.1, .int .i64 R6.1, .int .i64 R7.1, .int .i64 R8.1, .int .i64 R9.1, .int .i64 R10.1, .int .i64 0, .slice none 0 0, .slice none 0 0, .slice none 0 0, .slice none 0 0] 35) rfl
  refine Ze8 ?_
  as_aux_lemma =>
  refine Ze7 <| WC.region <| Ze6 1 rfl <| Zfb rfl rfl (Zq _ _ _ _ R10.2.1 R10.2.2 (by assumption) (by assumption) (by assumption) Z) rfl ?_
  generalize hR11 : rZ bs R10.2.1 R10.2.2 = R11
  clear Z; rintro _ w ⟨rfl, Z⟩
  have hR11f0 : R11.2.1 ≤ (List.length bs) := by rw [← hR11]; exact YK (by assumption)
  replace Z := Z.n4 L (a0 := Zd b2 #[.slice a (Za bs).length c, .int .i64 (R11.2.1 : Int), .int .i64 R11.2.2] 79) rfl
  refine Ze6 2 rfl <| Zfn rfl rfl rfl 2 Z rfl rfl rfl rfl rfl rfl (fun w Z => ?_)
  replace Z := Z.n4 L (a2 := Zd b3 #[.int .i64 R1.1, .int .u64 R2.1, .int .i64 R3.1, .bool R4.1, .int .i64 R5.1, .int .i64 R6.1, .int .i64 R7.1, .int .i64 R8.1, .int .i64 R9.1, .int .i64 R10.1, .int .i64 R11.1, .slice none 0 0, .slice none 0 0, .slice none 0 0, .slice none 0 0] 35) rfl
  refine Ze8 <| Ze7 <| WC.region <| Ze6 2 rfl <| Zfb rfl rfl (Yw _ _ _ _ R11.2.1 R11.2.2 (by assumption) (by assumption) (by assumption) Z) rfl ?_
  generalize hR12 : Yy bs R11.2.1 R11.2.2 = R12
  clear Z; rintro _ w ⟨rfl, Z⟩
  have hR12f0 : R12.2.1 ≤ (List.length bs) := by rw [← hR12]; exact JD (by assumption)
  have hR12f1 : (0 ≤ R12.1) ∧ (R12.1 + (R12.2.1 : Int) ≤ (List.length bs)) := by rw [← hR12]; exact QW (by assumption) (by assumption)
  replace Z := Z.n4 L (a0 := Zd b2 #[.slice a (Za bs).length c, .int .i64 (R12.2.1 : Int), .int .i64 R12.2.2] 79) rfl
  refine Zfb rfl rfl (Ug _ _ _ _ R12.2.1 R12.2.2 R12.1 (by assumption) (by assumption) (by assumption) (by omega) Z) rfl ?_
  generalize hR13 : ZJ bs R12.1.toNat R12.2.1 R12.2.2 = R13
  clear Z; rintro _ w ⟨a1, c1, rfl, Z⟩
  have hR13f0 : R13.2.1 ≤ (List.length bs) := by rw [← hR13]; exact CY (by assumption)
  have hR13f1 : (List.length R13.1) ≤ R12.1.toNat := by rw [← hR13]; exact (QN _ _ _ (by assumption)).2
  replace Z := Z.n5 L (a0 := Zd b2 #[.slice a (Za bs).length c, .int .i64 (R13.2.1 : Int), .int .i64 R13.2.2] 79) (a2 := Ze 27 2 (Zo R13.1) a1 c1) rfl
  refine Ze6 1 rfl <| Zfn rfl rfl rfl 3 Z rfl rfl rfl rfl rfl rfl (fun w Z => ?_)
  replace Z := Z.n5 L (a3 := Zd b3 #[.int .i64 R1.1, .int .u64 R2.1, .int .i64 R3.1, .bool R4.1, .int .i64 R5.1, .int .i64 R6.1, .int .i64 R7.1, .int .i64 R8.1, .int .i64 R9.1, .int .i64 R10.1, .int .i64 R11.1, .slice a1 (Zo R13.1).length c1, .slice none 0 0, .slice none 0 0, .slice none 0 0] 35) rfl
  refine Ze8 ?_
  as_aux_lemma =>
  refine Ze7 <| WC.region <| Ze6 2 rfl <| Zfb rfl rfl (Yw _ _ _ _ R13.2.1 R13.2.2 (by assumption) (by assumption) (by assumption) Z) rfl ?_
  generalize hR14 : Yy bs R13.2.1 R13.2.2 = R14
  clear Z; rintro _ w ⟨rfl, Z⟩
  have hR14f0 : R14.2.1 ≤ (List.length bs) := by rw [← hR14]; exact JD (by assumption)
  have hR14f1 : (0 ≤ R14.1) ∧ (R14.1 + (R14.2.1 : Int) ≤ (List.length bs)) := by rw [← hR14]; exact QW (by assumption) (by assumption)
  replace Z := Z.n5 L (a0 := Zd b2 #[.slice a (Za bs).length c, .int .i64 (R14.2.1 : Int), .int .i64 R14.2.2] 79) rfl
  refine Zfb rfl rfl (Q0 _ _ _ _ R14.2.1 R14.2.2 R14.1 (by assumption) (by assumption) (by assumption) (by omega) Z) rfl ?_
  generalize hR15 : Z7 bs R14.1.toNat R14.2.1 R14.2.2 = R15
  clear Z; rintro _ w ⟨a2, c2, rfl, Z⟩
  have hR15f0 : R15.2.1 ≤ (List.length bs) := by rw [← hR15]; exact V8 (by assumption)
  have hR15f1 : (List.length R15.1) ≤ R14.1.toNat := by rw [← hR15]; exact (U7 _ _ _ (by assumption)).2
  replace Z := Z.n6 L (a0 := Zd b2 #[.slice a (Za bs).length c, .int .i64 (R15.2.1 : Int), .int .i64 R15.2.2] 79) (a2 := Ze 88 4 (Zn R15.1) a2 c2) rfl
  refine Ze6 1 rfl <| Zfn rfl rfl rfl 4 Z rfl rfl rfl rfl rfl rfl (fun w Z => ?_)
  replace Z := Z.n6 L (a4 := Zd b3 #[.int .i64 R1.1, .int .u64 R2.1, .int .i64 R3.1, .bool R4.1, .int .i64 R5.1, .int .i64 R6.1, .int .i64 R7.1, .int .i64 R8.1, .int .i64 R9.1, .int .i64 R10.1, .int .i64 R11.1, .slice a1 (Zo R13.1).length c1, .slice a2 (Zn R15.1).length c2, .slice none 0 0, .slice none 0 0] 35) rfl
  refine Ze8 <| Ze7 <| Ze7 <| WC.region <| Ze6 1 rfl <| Zfb rfl rfl (Yw _ _ _ _ R15.2.1 R15.2.2 (by assumption) (by assumption) (by assumption) Z) rfl ?_
  generalize hR16 : Yy bs R15.2.1 R15.2.2 = R16
  clear Z; rintro _ w ⟨rfl, Z⟩
  have hR16f0 : R16.2.1 ≤ (List.length bs) := by rw [← hR16]; exact JD (by assumption)
  have hR16f1 : (0 ≤ R16.1) ∧ (R16.1 + (R16.2.1 : Int) ≤ (List.length bs)) := by rw [← hR16]; exact QW (by assumption) (by assumption)
  replace Z := Z.n6 L (a0 := Zd b2 #[.slice a (Za bs).length c, .int .i64 (R16.2.1 : Int), .int .i64 R16.2.2] 79) rfl
  refine Ze6 1 rfl <| Ze8 ?_
  as_aux_lemma =>
  refine Zfj ?_
  replace Z := Z.nil_ 2 1
  refine Zft [4, 5, 6, 7, 8, 9] (fun kM vs w => ∃ (n : Int) (ks : List Int) (q : Nat) (e : Int) (ak : Option Addr) (ck : Nat), vs = [.pointer (some ⟨b1, 0, none⟩), .int .i64 0, .int .i64 0, .pointer (some ⟨b2, 0, none⟩), .pointer (some ⟨b3, 0, none⟩), .int .i64 n] ∧ St g (Ze 2 1 (Zb ks) ak ck :: Zd b2 #[.slice a (Za bs).length c, .int .i64 (q : Int), .int .i64 e] 79 :: Sh 5 1 (Za bs) a c :: Ze 88 4 (Zn R15.1) a2 c2 :: Ze 27 2 (Zo R13.1) a1 c1 :: Zd b3 #[.int .i64 R1.1, .int .u64 R2.1, .int .i64 R3.1, .bool R4.1, .int .i64 R5.1, .int .i64 R6.1, .int .i64 R7.1, .int .i64 R8.1, .int .i64 R9.1, .int .i64 R10.1, .int .i64 R11.1, .slice a1 (Zo R13.1).length c1, .slice a2 (Zn R15.1).length c2, .slice ak (Zb ks).length ck, .slice none 0 0] 35 :: Zd b1 #[.int .i64 0, .int .u64 0, .int .i64 0, .bool false, .int .i64 0, .int .i64 0, .int .i64 0, .int .i64 0, .int .i64 0, .int .i64 0, .int .i64 0, .slice none 0 0, .slice none 0 0, .slice none 0 0, .slice none 0 0] 35 :: L) w ∧ (0 ≤ n ∧ n + ks.length = R16.1) ∧ (q ≤ bs.length) ∧ (Yq bs R16.1.toNat R16.2.1 R16.2.2 = (ks ++ (Yq bs n.toNat q e).1, (Yq bs n.toNat q e).2)) ∧ (n.toNat) = kM) (R16.1.toNat) ⟨R16.1, [], _, _, none, 0, rfl, Z, (by simp; omega), (by assumption), (rfl), rfl⟩ ?_
  clear Z; rintro _ _ w j ⟨n, ks, q, e, ak, ck, rfl, Z, hk, hq, hr, rfl⟩
  refine Ze7 <| Ze7 <| WC.region <| Ze6 2 rfl <| Zge 7 [.int .i64 e] rfl (by exact (fun _ => Z.ld 1 rfl rfl)) (fun j => ?_)
  refine Zf4 82 rfl (Ya (dd _) (dd _)) <| Ze8 <| Zfe rfl (fun cd2 => ?_) (fun cd2 => ?_)
  ·refine Zfc <| Ze7 <| Zfj <| Zfr [([0, 2, 1], some (3, [0, 1])), ([], some (4, [0, 1])), ([], some (5, [])), ([6], some (7, []))] (by kernel_rfl) (by kernel_rfl) ?_
   refine Zfp 3 [.slice ak (Zb ks).length ck] rfl (by exact Z.ld 5 rfl rfl) ?_
   refine WQ.dn Z (fun w Z => ?_)
   refine Zfb rfl rfl (Zq _ _ _ _ q e (by assumption) (by assumption) (by assumption) (Z.sel 3 [1, 1, 0] rfl)) rfl ?_
   generalize hR17 : rZ bs q e = R17
   clear Z; rintro _ w ⟨rfl, Z⟩
   have hR17f0 : R17.2.1 ≤ (List.length bs) := by rw [← hR17]; exact YK (by assumption)
   replace Z := Z.n7 L (a0 := Zd b2 #[.slice a (Za bs).length c, .int .i64 (R17.2.1 : Int), .int .i64 R17.2.2] 79) rfl
   refine Ze8 ?_
   refine ⟨by exact ⟨Zff rfl rfl rfl rfl, Zfq rfl rfl rfl rfl (Z.ld 5 rfl rfl)⟩, ?_⟩
   refine WQ.dn Z (fun w Z => ?_)
   refine Zf3 rfl rfl (Zb [R17.1]) el_32 Z (by exact ⟨rfl, rfl⟩) (XW _) rfl (Nat.le_of_ble_eq_true rfl) (fun b4 w Z => ?_)
   refine Ze8 ?_
   refine ⟨by exact ⟨Zff rfl rfl rfl rfl, Zfq rfl rfl rfl rfl (Z.ld 6 rfl rfl)⟩, ?_⟩
   refine WQ.dn Z (fun w Z => ?_)
   refine Zfz rfl rfl 3 (Zb (ks ++ [R17.1])) el_32 Z rfl (Z.srcO 0 rfl) (JT _ _).symm (Rm.of (by first | omega | (simp <;> omega)) (by decide)) rfl rfl (fun a3 c3 w Z => ?_)
   replace Z := Z.n8 L (a0 := Ze 2 1 (Zb [R17.1]) (some ⟨b4, 0, none⟩) (Zb [R17.1]).length) (a3 := Ze 2 1 (Zb (ks ++ [R17.1])) a3 c3) rfl
   refine Ze8 ?_
   refine ⟨by exact trivial, ?_⟩
   refine Zfg 1 rfl <| WQ.dn Z (fun w Z => ?_)
   refine Zfn rfl rfl rfl 6 Z rfl rfl rfl rfl rfl rfl (fun w Z => ?_)
   replace Z := Z.n8 L (a6 := Zd b3 #[.int .i64 R1.1, .int .u64 R2.1, .int .i64 R3.1, .bool R4.1, .int .i64 R5.1, .int .i64 R6.1, .int .i64 R7.1, .int .i64 R8.1, .int .i64 R9.1, .int .i64 R10.1, .int .i64 R11.1, .slice a1 (Zo R13.1).length c1, .slice a2 (Zn R15.1).length c2, .slice a3 (Zb (ks ++ [R17.1])).length c3, .slice none 0 0] 35) rfl
   refine Ze8 ?_
   refine ⟨by exact trivial, ?_⟩
   refine Z.dn (fun w Z => ?_)
   as_aux_lemma =>
   refine WC.region <| Ze6 2 rfl <| Zfi 84 rfl (ZF (by omega)) ?_
   refine Ze6 1 rfl <| Ze8 ?_
   exact ⟨_, by omega, n - 1, ks ++ [R17.1], R17.2.1, R17.2.2, _, _, rfl, (Z.sel 4 [3, 1, 1] rfl), (by simp; omega), (by assumption), (by rw [hr, show n.toNat = (n - 1).toNat + 1 by omega, Yq, if_neg (by simp [cd2.2])]; subst hR17; simp), rfl⟩
  ·refine Zfv <| Ze7 <| WC.region ?_
   have hr2 : Yq bs R16.1.toNat R16.2.1 R16.2.2 = (ks, q, e) := by
    rw [hr]
    rcases Int.lt_or_le 0 n with h | h
    ·rw [QK (by omega)]; simp
    ·rw [show n.toNat = 0 by omega]; simp [Yq]
   refine Ze6 2 rfl <| Zfb rfl rfl (Yw _ _ _ _ q e (by assumption) (by assumption) (by assumption) (Z.sel 3 [1, 1, 0] rfl)) rfl ?_
   generalize hR17 : Yy bs q e = R17
   clear Z; rintro _ w ⟨rfl, Z⟩
   have hR17f0 : R17.2.1 ≤ (List.length bs) := by rw [← hR17]; exact JD (by assumption)
   have hR17f1 : (0 ≤ R17.1) ∧ (R17.1 + (R17.2.1 : Int) ≤ (List.length bs)) := by rw [← hR17]; exact QW (by assumption) (by assumption)
   replace Z := Z.n7 L (a0 := Zd b2 #[.slice a (Za bs).length c, .int .i64 (R17.2.1 : Int), .int .i64 R17.2.2] 79) rfl
   refine Zfb rfl rfl (U6 _ _ _ _ R17.2.1 R17.2.2 R17.1 (by assumption) (by assumption) (by assumption) (by omega) Z) rfl ?_
   generalize hR18 : Zs bs R17.1.toNat R17.2.1 R17.2.2 = R18
   clear Z; rintro _ w ⟨a3, c3, rfl, Z⟩
   have hR18f0 : R18.2.1 ≤ (List.length bs) := by rw [← hR18]; exact DP (by assumption)
   have hR18f1 : (List.length R18.1) ≤ (List.length bs) := by rw [← hR18]; exact Hd
   have hR18f2 : B8 R18.1 := by rw [← hR18]; exact DI (by assumption)
   replace Z := Z.n8 L (a0 := Zd b2 #[.slice a (Za bs).length c, .int .i64 (R18.2.1 : Int), .int .i64 R18.2.2] 79) (a2 := Ze 5 1 (Za R18.1) a3 c3) rfl
   refine Ze6 1 rfl <| Zfn rfl rfl rfl 6 Z rfl rfl rfl rfl rfl rfl (fun w Z => ?_)
   replace Z := Z.n8 L (a6 := Zd b3 #[.int .i64 R1.1, .int .u64 R2.1, .int .i64 R3.1, .bool R4.1, .int .i64 R5.1, .int .i64 R6.1, .int .i64 R7.1, .int .i64 R8.1, .int .i64 R9.1, .int .i64 R10.1, .int .i64 R11.1, .slice a1 (Zo R13.1).length c1, .slice a2 (Zn R15.1).length c2, .slice ak (Zb ks).length ck, .slice a3 (Za R18.1).length c3] 35) rfl
   refine Ze8 ?_
   as_aux_lemma =>
   refine Ze7 <| Ze7 <| WC.region <| Zfd 5 [.int .i64 R18.2.2] rfl (by exact Z.ld 0 rfl rfl) ?_
   refine Ze8 <| Zfe rfl (fun cd3 => ?_) (fun cd3 => ?_)
   ·refine Ze7 <| Zfr [([1, 2, 3, 4], some (0, [1, 2, 3, 4])), ([], some (5, [1, 2, 3, 4])), ([6, 7], none)] (by kernel_rfl) (by kernel_rfl) ?_
    refine Zfp 4 [.int .i64 R18.2.2] rfl (by exact Z.ld 0 rfl rfl) ?_
    refine WQ.dn Z (fun w Z => ?_)
    refine Zf7 rfl rfl (cs := [.int .i64 0, .int .u64 0, .int .i64 0, .bool false, .int .i64 0, .int .i64 0, .int .i64 0, .int .i64 0, .int .i64 0, .int .i64 0, .int .i64 0, .slice none 0 0, .slice none 0 0, .slice none 0 0, .slice none 0 0]) Xk rfl rfl <| Ze8 ?_
    refine ⟨by exact ⟨Zff rfl rfl rfl rfl, Zff rfl rfl rfl rfl, Zff rfl rfl rfl rfl, Zfq rfl rfl rfl rfl (Z.ld 0 rfl rfl)⟩, ?_⟩
    refine WQ.dn Z (fun w Z => ?_)
    refine Zfu rfl rfl rfl 7 Z rfl rfl rfl rfl rfl ZK (fun w Z => ?_)
    replace Z := Z.n8 L rfl
    refine Ze8 ?_
    refine ⟨by exact ⟨Zff rfl rfl rfl rfl, Zff rfl rfl rfl rfl, Zff rfl rfl rfl rfl, Zfq rfl rfl rfl rfl (Z.ld 0 rfl rfl)⟩, ?_⟩
    refine Zfg 2 rfl <| Zfo ?_
    refine Z.dn (fun w Z => ?_)
    refine Zfa ?_
    refine ⟨[.agg #[.int .i64 0, .int .u64 0, .int .i64 0, .bool false, .int .i64 0, .int .i64 0, .int .i64 0, .int .i64 0, .int .i64 0, .int .i64 0, .int .i64 0, .slice none 0 0, .slice none 0 0, .slice none 0 0, .slice none 0 0], .int .i64 0, .int .i64 R18.2.2], ⟨⟨_, rfl, Z.lvF 7 rfl ZK⟩, rfl, rfl⟩, ?_⟩
    replace Z := Z.nil_ 5 1
    replace Z := Z.nil_ 27 2
    replace Z := Z.nil_ 88 4
    replace Z := Z.nil_ 2 1
    replace Z := (Z.sel 12 [5, 3, 2, 1, 0] rfl)
    have hA : (Yr bs q0).2.2 = R18.2.2 := by rw [Yr, hR1, QO, hR2, Uh, hR3, Uj, hR4, UZ, hR5, Hl, hR6, HO, hR7, D7, hR8, Ce, hR9, CA, hR10, Ql, hR11, Q8, hR12, Q2, hR13, UP, hR14, Uq, hR15, Hm, hR16, Hf, hr2, DC, hR17, DE, hR18, VT]
    have hn : ZH bs (q0 : Int) = (VA, 0, R18.2.2) := by rw [ZH, if_neg (by omega)]; simp only [Int.toNat_natCast, hA]; rw [if_pos cd3]
    rw [hn]; exact ⟨_, _, _, _, _, _, _, _, rfl, Z⟩
   ·refine Zfc <| Ze7 <| Zfr [([1, 2, 3, 4], some (0, [1, 2, 3, 4])), ([], some (5, [1, 2, 3, 4])), ([6, 7], none)] (by kernel_rfl) (by kernel_rfl) ?_
    refine Zfp 4 [.int .i64 (R18.2.1 : Int)] rfl (by exact Z.ld 0 rfl rfl) ?_
    refine WQ.dn Z (fun w Z => ?_)
    refine Zfy rfl rfl 6 Z rfl rfl ZK <| Ze8 ?_
    refine ⟨by exact ⟨Zff rfl rfl rfl rfl, Zff rfl rfl rfl rfl, Zff rfl rfl rfl rfl, Zfq rfl rfl rfl rfl (Z.ld 0 rfl rfl)⟩, ?_⟩
    refine WQ.dn Z (fun w Z => ?_)
    refine Zfu rfl rfl rfl 7 Z rfl rfl rfl rfl rfl ZK (fun w Z => ?_)
    replace Z := Z.n8 L (a7 := Zd b1 #[.int .i64 R1.1, .int .u64 R2.1, .int .i64 R3.1, .bool R4.1, .int .i64 R5.1, .int .i64 R6.1, .int .i64 R7.1, .int .i64 R8.1, .int .i64 R9.1, .int .i64 R10.1, .int .i64 R11.1, .slice a1 (Zo R13.1).length c1, .slice a2 (Zn R15.1).length c2, .slice ak (Zb ks).length ck, .slice a3 (Za R18.1).length c3] 35) rfl
    refine Ze8 ?_
    refine ⟨by exact ⟨Zff rfl rfl rfl rfl, Zff rfl rfl rfl rfl, Zff rfl rfl rfl rfl, Zfq rfl rfl rfl rfl (Z.ld 0 rfl rfl)⟩, ?_⟩
    refine Zfg 2 rfl <| Zfo ?_
    refine Z.dn (fun w Z => ?_)
    refine Zfa ?_
    refine ⟨[.agg #[.int .i64 R1.1, .int .u64 R2.1, .int .i64 R3.1, .bool R4.1, .int .i64 R5.1, .int .i64 R6.1, .int .i64 R7.1, .int .i64 R8.1, .int .i64 R9.1, .int .i64 R10.1, .int .i64 R11.1, .slice a1 (Zo R13.1).length c1, .slice a2 (Zn R15.1).length c2, .slice ak (Zb ks).length ck, .slice a3 (Za R18.1).length c3], .int .i64 (R18.2.1 : Int), .int .i64 0], ⟨⟨_, rfl, Z.lvF 7 rfl ZK⟩, rfl, rfl⟩, ?_⟩
    replace Z := (Z.sel 8 [1, 1, 3, 2, 1] rfl)
    have hA : Yr bs q0 = ({ err := R1.1, handle := R2.1, value := R3.1, found := R4.1, n := R5.1, ekey := R6.1, eval := R7.1, count := R8.1, sum := R9.1, mn := R10.1, mx := R11.1, ents := R13.1, chs := R15.1, keys := ks, bytes := R18.1 }, R18.2) := by rw [Yr, hR1, QO, hR2, Uh, hR3, Uj, hR4, UZ, hR5, Hl, hR6, HO, hR7, D7, hR8, Ce, hR9, CA, hR10, Ql, hR11, Q8, hR12, Q2, hR13, UP, hR14, Uq, hR15, Hm, hR16, Hf, hr2, DC, hR17, DE, hR18, VT]
    have hn : ZH bs (q0 : Int) = ({ err := R1.1, handle := R2.1, value := R3.1, found := R4.1, n := R5.1, ekey := R6.1, eval := R7.1, count := R8.1, sum := R9.1, mn := R10.1, mx := R11.1, ents := R13.1, chs := R15.1, keys := ks, bytes := R18.1 }, (R18.2.1 : Int), 0) := by rw [ZH, if_neg (by omega)]; simp only [Int.toNat_natCast, hA]; rw [if_neg cd3]
    rw [hn]; exact ⟨_, _, _, _, _, _, _, _, rfl, Z⟩
end Go.Proofs.YtlifpobidhfbfaaGreatDoor
namespace Go.Proofs.YtlifpobidhfbfaaGreatDoor
open Go Go.V Go.RowKit Go.Maps
def crC : List Value := [.int .i64 1, .int .u64 0, .int .u64 0, .int .i64 0, .int .i64 0, .int .i64 0, .int .i64 0, .int .i64 0, .bool false, .string ⟨#[]⟩, .slice none 0 0, .slice none 0 0, .slice none 0 0]
def Je (n : Nat) : List (List Value) := List.replicate n crC
theorem Qa (n : Nat) : (Je n).length = n := List.length_replicate
theorem HI {n k : Nat} (h : k < n) : (Je n)[k]? = some crC := by
 unfold Je; rw [List.getElem?_replicate, if_pos h]
theorem DL (n : Nat) : Je n ++ [crC] = Je (n + 1) := by
 unfold Je; rw [List.replicate_succ']
def ones (n : Nat) : List Int := List.replicate n 1
theorem Ck (n : Nat) : (ones n).length = n := List.length_replicate
theorem Za3 {n k : Nat} (h : k < n) : (ones n)[k]? = some 1 := by
 unfold ones; rw [List.getElem?_replicate, if_pos h]
variable {g w : World} {L : List HP}
theorem Zeo (r : Nat) (a : Option Addr) (c : Nat) (bs : List Int) (p : Nat) (hl : bs.length ≤ 1000000000) (hp : p ≤ bs.length) (Z : St g (Zd r #[.slice a (Za bs).length c, .int .i64 (p : Int), .int .i64 0] 79 :: L) w) :
  Sp Tryz.prog 69 [.pointer (some ⟨r, 0, none⟩)] w (fun v w' => v = .int .i64 ((List.length bs : Int) - p) ∧ St g (Zd r #[.slice a (Za bs).length c, .int .i64 (p : Int), .int .i64 0] 79 :: L) w') := by
 refine Sp.enter Tryz.func69 rfl (by kernel_rfl) (by kernel_rfl) ?_
 refine Ze7 <| WC.region ?_
 have hl8 := Zf bs
 refine Ze6 1 rfl <| Ze8 <| Ze7 <| Zfr [([0, 5, 1, 6, 2, 7, 3, 8, 4, 9, 10], none)] (by kernel_rfl) (by kernel_rfl) ?_
 refine Zfp 10 [.slice a (Za bs).length c, .int .i64 (p : Int)] rfl (by exact ⟨Z.ld 0 rfl rfl, Z.ld 0 rfl rfl⟩) ?_
 refine Zf8 12 rfl (ZF (by omega)) ?_
 refine Zfg 1 rfl <| Zfo ?_
 refine Z.dn (fun w Z => ?_)
 refine Zfa ?_
 refine ⟨[.int .i64 ((List.length (Za bs) : Int) - (p : Int))], rfl, ?_⟩
 exact ⟨by rw [hl8]; rfl, Z⟩
theorem Zdj (r : Nat) (a : Option Addr) (c : Nat) (bs : List Int) (p : Nat) (hl : bs.length ≤ 1000000000) (hp : bs[p]? = some 1) (Z : St g (Zd r #[.slice a (Za bs).length c, .int .i64 (p : Int), .int .i64 0] 79 :: Sh 5 1 (Za bs) a c :: L) w) :
  Sp Tryz.prog 68 [.pointer (some ⟨r, 0, none⟩)] w (fun v w' => v = .int .u8 1 ∧ St g (Zd r #[.slice a (Za bs).length c, .int .i64 ((p : Int) + 1), .int .i64 0] 79 :: Sh 5 1 (Za bs) a c :: L) w') := by
 refine Sp.enter Tryz.func68 rfl (by kernel_rfl) (by kernel_rfl) ?_
 refine Ze7 <| WC.region ?_
 have hl8 := Zf bs; have hpl := (List.getElem?_eq_some_iff.1 hp).1
 refine Ze6 1 rfl <| Ze8 <| Ze7 <| Ze7 <| WC.region <| Zfd 5 [.int .i64 0] rfl (by exact Z.ld 0 rfl rfl) ?_
 refine Ze8 <| Zfl rfl (decide_eq_false ((by decide))) ?_
 refine Zfc <| Ze7 <| Ze7 <| WC.region <| Ze6 1 rfl <| Zfb rfl rfl (Zeo _ a c bs p hl (by omega) Z) rfl ?_
 clear Z; rintro _ w ⟨rfl, Z⟩
 replace Z := Z.n2 L rfl
 refine Ze6 1 rfl <| Ze8 <| Zfl rfl (decide_eq_false ((by omega))) ?_
 refine Zfc <| Ze7 <| WC.region <| Zfd 5 [.int .i64 (p : Int)] rfl (by exact Z.ld 0 rfl rfl) ?_
 refine Zfi 17 rfl (ZF (by omega)) ?_
 refine Ze6 2 rfl <| Zfn rfl rfl rfl 0 Z rfl rfl rfl rfl rfl rfl (fun w Z => ?_)
 replace Z := Z.n2 L (a0 := Zd r #[.slice a (Za bs).length c, .int .i64 ((p : Int) + 1), .int .i64 0] 79) rfl
 refine Ze8 ?_
 as_aux_lemma =>
 refine Ze7 <| Zfr [([0, 4, 1, 5, 2, 6, 3, 7, 8], some (9, [])), ([10, 11], none)] (by kernel_rfl) (by kernel_rfl) ?_
 refine Zfp 9 [.slice a (Za bs).length c, .int .i64 ((p : Int) + 1)] rfl (by exact ⟨Z.ld 0 rfl rfl, Z.ld 0 rfl rfl⟩) ?_
 refine Zf8 28 rfl (ZF (by omega)) ?_
 refine WQ.dn Z (fun w Z => ?_)
 refine Zfw rfl rfl (i := ((p : Int) + 1) - 1) (p) el_33 rfl rfl (by omega) (Zt (ZA hp)) (Z.rdS 1 rfl (ZA hp)).1 ?_
 refine Ze8 ?_
 refine ⟨by exact trivial, ?_⟩
 refine Zfp 2 [.int .u8 1] rfl (by exact (Z.rdS 1 rfl (ZA hp)).2 0 _ rfl) ?_
 refine Zfo ?_
 refine Z.dn (fun w Z => ?_)
 refine Zfa ?_
 refine ⟨[.int .u8 1], rfl, ?_⟩
 exact ⟨rfl, Z⟩
theorem Zc6 (a : Option Addr) (c : Nat) (bs : List Int) (p : Nat) (hl : bs.length ≤ 1000000000) (hp : bs[p]? = some 1) (Z : St g (Sh 5 1 (Za bs) a c :: L) w) :
  Sp Tryz.prog 47 [.slice a (Za bs).length c, .int .i64 (p : Int)] w (fun v w' => v = .tuple #[.agg #[.int .i64 1, .int .u64 0, .int .u64 0, .int .i64 0, .int .i64 0, .int .i64 0, .int .i64 0, .int .i64 0, .bool false, .string ⟨#[]⟩, .slice none 0 0, .slice none 0 0, .slice none 0 0], .int .i64 ((p : Int) + 1), .int .i64 0] ∧ St g (Sh 5 1 (Za bs) a c :: L) w') := by
 refine Sp.enter Tryz.func47 rfl (by kernel_rfl) (by kernel_rfl) ?_
 refine Ze7 <| WC.region <| Zf5 rfl rfl JK Z (fun b1 w Z => ?_)
 refine Ze6 2 rfl <| Ze8 <| Ze7 <| Ze7 <| WC.region ?_
 have hl8 := Zf bs; have hpl := (List.getElem?_eq_some_iff.1 hp).1
 refine Ze6 2 rfl <| Zgd 6 rfl (fun j => ?_)
 refine Zf4 20 rfl (Uw (dd _) (dd _)) <| Ze8 <| Zfl rfl (decide_eq_false ((by omega))) ?_
 refine Zfc <| Ze7 <| WC.region <| Ze6 2 rfl <| Zf7 rfl rfl (cs := [.slice a (Za bs).length c, .int .i64 (p : Int), .int .i64 0]) Zcf rfl rfl <| Zf0 rfl rfl #[.slice a (Za bs).length c, .int .i64 (p : Int), .int .i64 0] Z rfl rfl (fun b2 w Z => ?_)
 refine Ze6 1 rfl <| Ze8 <| Ze7 <| WC.region <| Ze6 1 rfl <| Zfb rfl rfl (Zdj _ _ _ _ p hl hp (Z.sel 3 [0, 1, 0] rfl)) rfl ?_
 clear Z; rintro _ w ⟨rfl, Z⟩
 replace Z := Z.n3 L rfl
 refine Ze6 1 rfl <| Zfi 28 rfl (ZF (by omega)) ?_
 refine Zf7 rfl rfl (cs := [.int .i64 1, .int .u64 0, .int .u64 0, .int .i64 0, .int .i64 0, .int .i64 0, .int .i64 0, .int .i64 0, .bool false, .string ⟨#[]⟩, .slice none 0 0, .slice none 0 0, .slice none 0 0]) JK rfl rfl <| Zf5 rfl rfl JK Z (fun b3 w Z => ?_)
 refine Zfu rfl rfl rfl 0 Z rfl rfl rfl rfl rfl Zk (fun w Z => ?_)
 replace Z := Z.n4 L (a0 := Zd b3 #[.int .i64 1, .int .u64 0, .int .u64 0, .int .i64 0, .int .i64 0, .int .i64 0, .int .i64 0, .int .i64 0, .bool false, .string ⟨#[]⟩, .slice none 0 0, .slice none 0 0, .slice none 0 0] 66) rfl
 refine Ze8 ?_
 as_aux_lemma =>
 refine Ze7 <| WC.region <| Zfd 2 [.int .i64 1] rfl (by exact Z.ld 0 rfl rfl) ?_
 refine Zfb rfl rfl (Vx Z) rfl ?_
 clear Z; rintro _ w ⟨rfl, Z⟩
 replace Z := Z.n4 L rfl
 refine Ze6 5 rfl <| Ze8 <| Ze7 <| Ze7 <| WC.region <| Ze6 2 rfl <| Ze8 <| Zfl rfl rfl <| Zfc <| Ze7 <| Ze7 <| WC.region ?_
 refine Ze6 1 rfl <| Zgs rfl rfl rfl Z rfl (fun b4 w Z => ?_)
 replace Z := Z.n5 L (a0 := ZN b4 (.stringIter (Y_ []) 0)) rfl
 refine Ze8 <| Zfj <| Zft [4, 5, 6, 7, 8, 41] (fun kM vs w => vs = [.pointer (some ⟨b1, 0, none⟩), .int .i64 0, .int .i64 0, .pointer (some ⟨b2, 0, none⟩), .pointer (some ⟨b3, 0, none⟩), .pointer (some ⟨b4, 0, none⟩)] ∧ St g (ZN b4 (.stringIter (Y_ []) 0) :: Zd b3 #[.int .i64 1, .int .u64 0, .int .u64 0, .int .i64 0, .int .i64 0, .int .i64 0, .int .i64 0, .int .i64 0, .bool false, .string ⟨#[]⟩, .slice none 0 0, .slice none 0 0, .slice none 0 0] 66 :: Zd b2 #[.slice a (Za bs).length c, .int .i64 ((p : Int) + 1), .int .i64 0] 79 :: Sh 5 1 (Za bs) a c :: Zd b1 #[.int .i64 0, .int .u64 0, .int .u64 0, .int .i64 0, .int .i64 0, .int .i64 0, .int .i64 0, .int .i64 0, .bool false, .string ⟨#[]⟩, .slice none 0 0, .slice none 0 0, .slice none 0 0] 66 :: L) w ∧ (0) = kM) (0) ⟨rfl, Z, rfl⟩ ?_
 clear Z; rintro _ _ w j ⟨rfl, Z, rfl⟩
 refine Ze7 <| WC.region <| Zgt rfl rfl rfl rfl rfl rfl rfl 0 (by intro x hx; cases hx) Z rfl rfl (fun w Z => ?_)
 replace Z := Z.n5 L (a0 := ZN b4 (.stringIter (Y_ []) (if (0 < 0) then (0 + 1) else 0))) rfl
 refine Ze8 ?_
 as_aux_lemma =>
 refine Ze7 <| Zfl rfl (decide_eq_false ((by decide))) ?_
 refine Zfv <| Ze7 <| Ze7 <| WC.region <| Zfd 5 [.int .i64 0] rfl (by exact Z.ld 2 rfl rfl) ?_
 refine Ze8 <| Zfl rfl (decide_eq_false ((by decide))) ?_
 refine Zfc <| Ze7 <| Zfr [([1, 2, 3, 4], some (0, [1, 2, 3, 4])), ([], some (5, [1, 2, 3, 4])), ([6, 7], none)] (by kernel_rfl) (by kernel_rfl) ?_
 refine Zfp 4 [.int .i64 ((p : Int) + 1)] rfl (by exact Z.ld 2 rfl rfl) ?_
 refine WQ.dn Z (fun w Z => ?_)
 refine Zfy rfl rfl 1 Z rfl rfl Zk <| Ze8 ?_
 refine ⟨by exact ⟨Zff rfl rfl rfl rfl, Zff rfl rfl rfl rfl, Zff rfl rfl rfl rfl, Zfq rfl rfl rfl rfl (Z.ld 2 rfl rfl)⟩, ?_⟩
 refine WQ.dn Z (fun w Z => ?_)
 refine Zfu rfl rfl rfl 4 Z rfl rfl rfl rfl rfl Zk (fun w Z => ?_)
 replace Z := Z.n5 L (a4 := Zd b1 #[.int .i64 1, .int .u64 0, .int .u64 0, .int .i64 0, .int .i64 0, .int .i64 0, .int .i64 0, .int .i64 0, .bool false, .string ⟨#[]⟩, .slice none 0 0, .slice none 0 0, .slice none 0 0] 66) rfl
 refine Ze8 ?_
 refine ⟨by exact ⟨Zff rfl rfl rfl rfl, Zff rfl rfl rfl rfl, Zff rfl rfl rfl rfl, Zfq rfl rfl rfl rfl (Z.ld 2 rfl rfl)⟩, ?_⟩
 refine Zfg 2 rfl <| Zfo ?_
 refine Z.dn (fun w Z => ?_)
 as_aux_lemma =>
 refine Zfa ?_
 refine ⟨[.agg #[.int .i64 1, .int .u64 0, .int .u64 0, .int .i64 0, .int .i64 0, .int .i64 0, .int .i64 0, .int .i64 0, .bool false, .string ⟨#[]⟩, .slice none 0 0, .slice none 0 0, .slice none 0 0], .int .i64 ((p : Int) + 1), .int .i64 0], ⟨⟨_, rfl, Z.lvF 4 rfl Zk⟩, rfl, rfl⟩, ?_⟩
 replace Z := (Z.sel 5 [3] rfl)
 exact ⟨rfl, Z⟩
theorem dec_n (a : Option Addr) (c : Nat) (n : Nat) (hn : n ≤ 70000) (Z : St g (Sh 5 1 (Za (ones n)) a c :: L) w) :
  Sp Tryz.prog 25 [.slice a (Za (ones n)).length c] w (fun v w' => ∃ (a2 : Option Addr) (c2 : Nat), v = .tuple #[.slice a2 (Je (min n 65536)).length c2, .int .i64 ((min n 65536 : Nat) : Int), .int .i64 (if n ≤ 65536 then 0 else 2)] ∧ St g (Ze 66 13 (Je (min n 65536)) a2 c2 :: Sh 5 1 (Za (ones n)) a c :: L) w') := by
 refine Sp.enter Tryz.func25 rfl (by kernel_rfl) (by kernel_rfl) ?_
 refine Ze7 <| WC.region <| Ze6 3 rfl <| Ze8 <| Ze7 <| WC.region ?_
 have hl8 := Zf (ones n); have hln := Ck n
 refine Ze6 1 rfl <| Ze8 <| Ze7 <| WC.region <| Ze6 1 rfl <| Ze8 <| Ze7 <| Zfj ?_
 replace Z := Z.nil_ 66 13
 refine Zft [0, 5, 6] (fun kM vs w => ∃ (k : Nat) (acc : List (List Value)) (u : Option Addr) (d : Nat), vs = [.slice a (Za (ones n)).length c, .slice u (List.length acc) d, .int .i64 (k : Int)] ∧ St g (Ze 66 13 acc u d :: Sh 5 1 (Za (ones n)) a c :: L) w ∧ (k ≤ n ∧ k ≤ 65536) ∧ (acc = Je k) ∧ (n - k) = kM) (n - 0) ⟨0, [], none, 0, rfl, Z, (⟨Nat.zero_le _, Nat.zero_le _⟩), (rfl), rfl⟩ ?_
 clear Z; rintro _ _ w j ⟨k, acc, u, d, rfl, Z, hk, ha, rfl⟩
 refine Ze7 <| Ze7 <| WC.region <| Ze6 4 rfl <| Ze8 <| Zfe rfl (fun cd1 => ?_) (fun cd1 => ?_)
 ·refine Zfc ?_
  as_aux_lemma =>
  refine Zfj <| Ze7 <| Ze7 <| WC.region ?_
  have hol : acc.length = k := (by rw [ha]; exact Qa k)
  refine Ze6 3 rfl <| Ze8 <| Zfe rfl (fun cd2 => ?_) (fun cd2 => ?_)
  ·refine Ze7 <| WC.region <| Ze6 5 rfl <| Ze8 <| Zfa ?_
   refine ⟨[.slice u (List.length acc) d, .int .i64 (k : Int), .int .i64 2], ⟨rfl, rfl, rfl⟩, ?_⟩
   have hk9 : k = 65536 := (by omega); subst hk9; have e1 : min n 65536 = 65536 := (by omega); rw [ha] at Z ⊢; rw [e1, if_neg (by omega)]; exact ⟨_, _, rfl, Z⟩
  ·refine Zfc <| Ze7 <| WC.region <| Ze6 2 rfl <| Zfb rfl rfl (Zc6 _ _ (ones n) k (by omega) (Za3 (by omega)) (Z.sel 2 [1, 0] rfl)) rfl ?_
   clear Z; rintro _ w ⟨rfl, Z⟩
   replace Z := Z.n2 L rfl
   refine Ze6 4 rfl <| Zf5 rfl rfl JK Z (fun b1 w Z => ?_)
   refine Zfu rfl rfl rfl 0 Z rfl rfl rfl rfl rfl Zk (fun w Z => ?_)
   replace Z := Z.n3 L (a0 := Zd b1 #[.int .i64 1, .int .u64 0, .int .u64 0, .int .i64 0, .int .i64 0, .int .i64 0, .int .i64 0, .int .i64 0, .bool false, .string ⟨#[]⟩, .slice none 0 0, .slice none 0 0, .slice none 0 0] 66) rfl
   refine Ze6 2 rfl <| Ze8 <| Ze7 <| Ze7 <| WC.region <| Ze6 2 rfl <| Ze8 ?_
   as_aux_lemma =>
   refine Zfl rfl (decide_eq_false ((by decide))) ?_
   refine Zfc <| Ze7 <| WC.region <| Ze6 1 rfl <| Zfy rfl rfl 0 Z rfl rfl Zk <| Zf3 rfl rfl ([[.int .i64 1, .int .u64 0, .int .u64 0, .int .i64 0, .int .i64 0, .int .i64 0, .int .i64 0, .int .i64 0, .bool false, .string ⟨#[]⟩, .slice none 0 0, .slice none 0 0, .slice none 0 0]]) el_62 Z (by exact ⟨rfl, rfl⟩) (by simp [OkE, Value.oneCell']) rfl (Nat.le_of_ble_eq_true rfl) (fun b2 w Z => ?_)
   refine Zfz rfl rfl 3 (acc ++ [[.int .i64 1, .int .u64 0, .int .u64 0, .int .i64 0, .int .i64 0, .int .i64 0, .int .i64 0, .int .i64 0, .bool false, .string ⟨#[]⟩, .slice none 0 0, .slice none 0 0, .slice none 0 0]]) el_62 Z rfl (Z.srcO 0 rfl) rfl (Rm.of (by first | omega | (simp <;> omega)) (by decide)) rfl rfl (fun a1 c1 w Z => ?_)
   replace Z := Z.n4 L (a0 := Ze 66 13 [[.int .i64 1, .int .u64 0, .int .u64 0, .int .i64 0, .int .i64 0, .int .i64 0, .int .i64 0, .int .i64 0, .bool false, .string ⟨#[]⟩, .slice none 0 0, .slice none 0 0, .slice none 0 0]] (some ⟨b2, 0, none⟩) 1) (a3 := Ze 66 13 (acc ++ [[.int .i64 1, .int .u64 0, .int .u64 0, .int .i64 0, .int .i64 0, .int .i64 0, .int .i64 0, .int .i64 0, .bool false, .string ⟨#[]⟩, .slice none 0 0, .slice none 0 0, .slice none 0 0]]) a1 c1) rfl
   refine Ze6 1 rfl <| Ze8 <| WC.region <| Ze6 2 rfl <| Ze8 ?_
   exact ⟨_, by omega, k + 1, acc ++ [crC], _, _, rfl, (Z.sel 4 [3, 2] rfl), (by omega), (by rw [ha, DL]), rfl⟩
 ·refine Zfv ?_
  as_aux_lemma =>
  refine Ze7 <| WC.region <| Ze6 5 rfl <| Ze8 <| Zfa ?_
  refine ⟨[.slice u (List.length acc) d, .int .i64 (k : Int), .int .i64 0], ⟨rfl, rfl, rfl⟩, ?_⟩
  have hk9 : k = n := (by omega); subst hk9; have e1 : min k 65536 = k := (by omega); rw [ha] at Z ⊢; rw [e1, if_pos (by omega)]; exact ⟨_, _, rfl, Z⟩
end Go.Proofs.YtlifpobidhfbfaaGreatDoor
namespace Go.V
open Go
def Sim {α : Type} (r q : α × Nat × Int) : Prop := q.2.2 = r.2.2 ∧ (r.2.2 = 0 → q = r)
section
variable {bs : List Int} {p : Nat} {e : Int}
theorem Sim.refl {α : Type} (r : α × Nat × Int) : Sim r r := ⟨rfl, fun _ => rfl⟩
end
end Go.V
namespace Go.V
open Go
section
variable {bs : List Int} {p : Nat} {e : Int}
theorem fl_ne {e e2 : Int} (h : e ≠ 0) : fl e e2 = e := by rw [fl, if_neg h]
theorem rU_s (h : e ≠ 0) : rU bs p e = (0, p, e) := by rw [rU, if_pos h]
theorem Hj (h : e ≠ 0) : (rZ bs p e).2 = (p, e) := by rw [rZ, rU_s h]
theorem Cm {n : Nat} (h : e ≠ 0) : (Zs bs n p e).2.2 = e := by
 rw [Zs]; split
 ·exact fl_ne h
 ·rw [if_pos (.inl h)]
theorem Sim.of {α : Type} {r q : α × Nat × Int} (h : q.2.2 = r.2.2) (h2 : r.2.2 = 0 → q = r) : Sim r q := ⟨h, h2⟩
theorem Sim.bind {α β : Type} {r q : α × Nat × Int} (h : Sim r q) {f g : α × Nat × Int → β × Nat × Int} (hf : ∀ z : α × Nat × Int, z.2.2 ≠ 0 → (f z).2.2 = z.2.2) (hg : ∀ z : α × Nat × Int, z.2.2 ≠ 0 → (g z).2.2 = z.2.2) (hs : r.2.2 = 0 → Sim (f r) (g r)) : Sim (f r) (g q) := by
 by_cases h0 : r.2.2 = 0
 ·rw [h.2 h0]; exact hs h0
 ·have h1 : q.2.2 ≠ 0 := by rw [h.1]; exact h0
  exact ⟨by rw [hg q h1, hf r h0, h.1], fun hh => absurd (by rw [← hf r h0]; exact hh) h0⟩
theorem Sim.map {α β : Type} {r q : α × Nat × Int} (h : Sim r q) (f : α → β) : Sim (f r.1, r.2) (f q.1, q.2) := ⟨h.1, fun hh => by rw [h.2 hh]⟩
end
end Go.V
namespace Go.V
open Go
def setF (f : Int) (x y : OpM) : OpM :=
 if f = 65 then { y with a := x.a }
 else if f = 66 then { y with b := x.b }
 else if f = 75 then { y with key := x.key }
 else if f = 86 then { y with val := x.val }
 else if f = 76 then { y with lo := x.lo }
 else if f = 72 then { y with hi := x.hi }
 else if f = 78 then { y with n := x.n }
 else if f = 70 then { y with flag := x.flag }
 else if f = 83 then { y with name := x.name }
 else if f = 89 then { y with bytes := x.bytes }
 else if f = 69 then { y with ents := x.ents }
 else if f = 67 then { y with chs := x.chs }
 else y
def Zce : List Int → OpM → OpM → OpM
 | [], _, y => y
 | f :: l, x, y => Zce l x (setF f x y)
def only (x : OpM) : OpM := Zce (fs x.code) x (op0 x.code)
def SelA {α : Type} (a2 : Option Addr) (c2 : Nat) (ms : List α) (a : Option Addr) (c : Nat) (ls : List α) : Prop := (a2 = a ∧ c2 = c ∧ ms = ls) ∨ (a2 = none ∧ c2 = 0 ∧ ms = [])
theorem SelA.same {α : Type} {a : Option Addr} {c : Nat} {ls : List α} : SelA a c ls a c ls := .inl ⟨rfl, rfl, rfl⟩
theorem SelA.nil {α : Type} {a : Option Addr} {c : Nat} {ls : List α} : SelA none 0 [] a c ls := .inr ⟨rfl, rfl, rfl⟩
theorem OpM.ext' {x y : OpM} (h : x.code = y.code ∧ x.a = y.a ∧ x.b = y.b ∧ x.key = y.key ∧ x.val = y.val ∧ x.lo = y.lo ∧ x.hi = y.hi ∧ x.n = y.n ∧ x.flag = y.flag ∧ x.name = y.name ∧ x.bytes = y.bytes ∧ x.ents = y.ents ∧ x.chs = y.chs) : x = y := by
 cases x; cases y; simp only [OpM.mk.injEq]; exact h
theorem Zah {l m : List Int} (hl : B8 l) (hm : B8 m) (h : Y_ l = Y_ m) : l = m := by rw [← CN hl, ← CN hm, h]
def H7 (x : OpM) : Prop := x.name.size ≤ 300 ∧ x.bytes.length ≤ 300 ∧ x.ents.length ≤ 100 ∧ x.chs.length ≤ 100
instance (x : OpM) : Decidable (H7 x) := by unfold H7; infer_instance
structure OpT (x : OpM) : Prop where
 w : OpW x
 code : Z8 x.code
 n : Z8 x.n
 by_ : B8 x.bytes
structure OpZ where
 m : OpM
 ab : Option Addr
 ae : Option Addr
 ac : Option Addr
 cb : Nat
 ce : Nat
 cc : Nat
def opC (z : OpZ) : List Value := [.int .i64 z.m.code, .int .u64 z.m.a, .int .u64 z.m.b, .int .i64 z.m.key, .int .i64 z.m.val, .int .i64 z.m.lo, .int .i64 z.m.hi, .int .i64 z.m.n, .bool z.m.flag, .string z.m.name, .slice z.ab (Za z.m.bytes).length z.cb, .slice z.ae (Zo z.m.ents).length z.ce, .slice z.ac (Zn z.m.chs).length z.cc]
def enOp (zs : List OpZ) : List (List Value) := zs.map opC
@[simp] theorem enOp_len (l : List OpZ) : (enOp l).length = l.length := by simp [enOp]
end Go.V
namespace Go.V
open Go
section
variable {bs : List Int} {p : Nat} {e : Int}
def Ch8 (l : List (Int × Int × Int × Int)) : Prop := ∀ c ∈ l, 0 ≤ c.1 ∧ c.1 ≤ 255
structure OpR (x : OpM) : Prop where
 t : OpT x
 l : OpL x
 k : Ch8 x.chs
end
theorem B8.app {l m : List Int} (h : B8 l) (k : B8 m) : B8 (l ++ m) := fun x hx => by
 rcases List.mem_append.1 hx with hx | hx
 ·exact h x hx
 ·exact k x hx
theorem B8.take {l : List Int} {k : Nat} (h : B8 l) : B8 (l.take k) := fun x hx => h x (List.mem_of_mem_take hx)
theorem B8.drop {l : List Int} {k : Nat} (h : B8 l) : B8 (l.drop k) := fun x hx => h x (List.mem_of_mem_drop hx)
theorem B8.one {c : Int} (h : 0 ≤ c ∧ c ≤ 255) : B8 [c] := fun x hx => by simp at hx; subst hx; exact h
theorem B8.nil : B8 [] := fun _ h => by cases h
theorem B8.cons {c : Int} {l : List Int} (h : 0 ≤ c ∧ c ≤ 255) (k : B8 l) : B8 (c :: l) := fun x hx => by
 rcases List.mem_cons.1 hx with rfl | hx
 ·exact h
 ·exact k x hx
theorem Db {α : Type} {f : α → List Int} {l : List α} (h : ∀ x ∈ l, B8 (f x)) : B8 (l.flatMap f) := fun x hx => by
 obtain ⟨y, hy, hx⟩ := List.mem_flatMap.1 hx
 exact h y hy x hx
theorem QB (u : Int) : B8 (eU u) := QH _
theorem YO (n : Int) : B8 (eZ n) := QH _
theorem D4 {l : List Int} (h : B8 l) : B8 (Yp l) := (QB _).app h
theorem Cs (l : List (Int × Int)) : B8 (YF l) := (QB _).app (Db fun _ _ => (YO _).app (YO _))
theorem Zct (c : Int) : 0 ≤ c % 256 ∧ c % 256 ≤ 255 := by omega
theorem Zbo (l : List (Int × Int × Int × Int)) : B8 (XO l) := (QB _).app (Db fun _ _ => B8.cons (Zct _) (((YO _).app (YO _)).app (YO _)))
theorem eF_B8 (b : Bool) : B8 (eF b) := by cases b <;> exact B8.one (by decide)
end Go.V
namespace Go.V
open Go
theorem Zdx : ∀ (w i : Nat) (u : Int) (rest : List Int), (w : Int) * 128 ^ i < 18446744073709551616 → (0 < i → 0 < w) → YI i u (Zu w ++ rest) = (u + w * 128 ^ i, i + (Zu w).length, 0) := by
 intro w
 induction w using Nat.strongRecOn with
 | _ w ih =>
  intro i u rest hw h0
  have p9 : ∀ j, 9 ≤ j → (9223372036854775808 : Int) ≤ 128 ^ j := fun j hj => by
   have h1 : (128 : Int) ^ j = 128 ^ 9 * 128 ^ (j - 9) := by rw [← Int.pow_add]; congr 1; omega
   have h2 : (1 : Int) ≤ 128 ^ (j - 9) := by have : (0 : Int) < 128 ^ (j - 9) := Int.pow_pos (by decide); omega
   rw [h1, Vm]
   have := Int.mul_le_mul_of_nonneg_left h2 (show (0 : Int) ≤ 9223372036854775808 by decide)
   omega
  by_cases h : w < 128
  ·rw [Yb h, List.singleton_append, YZ ?_ (by omega)]
   ·simp
   ·rintro (⟨rfl, h1⟩ | ⟨h1, h2⟩)
    ·have := p9 9 (by omega)
     have h3 := Int.mul_le_mul_of_nonneg_left this (show (0 : Int) ≤ (w : Int) by omega)
     omega
    ·have := h0 h1; omega
  ·have hi : i ≤ 8 := by
    rcases Nat.lt_or_ge i 9 with h1 | h1
    ·omega
    ·have h2 := p9 i h1
     have h3 := Int.mul_le_mul_of_nonneg_left h2 (show (0 : Int) ≤ (w : Int) by omega)
     omega
   rw [Yc h, List.cons_append, Xx (by omega) (by omega)]
   have e1 : u + ((w : Int) % 128 + 128 - 128) * 128 ^ i + ((w / 128 : Nat) : Int) * 128 ^ (i + 1) = u + (w : Int) * 128 ^ i := by
    rw [Zcu]
    have h5 : (w : Int) = w % 128 + 128 * ((w / 128 : Nat) : Int) := by omega
    have h6 : ((w / 128 : Nat) : Int) * (128 * 128 ^ i) = 128 * ((w / 128 : Nat) : Int) * 128 ^ i := by rw [← Int.mul_assoc, Int.mul_comm ((w / 128 : Nat) : Int) 128]
    rw [h6]
    have h7 : (w : Int) * 128 ^ i = ((w : Int) % 128) * 128 ^ i + 128 * ((w / 128 : Nat) : Int) * 128 ^ i := by
     rw [← Int.add_mul, ← h5]
    rw [h7, show (w : Int) % 128 + 128 - 128 = (w : Int) % 128 by omega, Int.add_assoc]
   have e2 : ((w / 128 : Nat) : Int) * 128 ^ (i + 1) < 18446744073709551616 := by
    have hp : (0 : Int) < 128 ^ i := Int.pow_pos (by decide)
    have h7 : (128 : Int) * ((w / 128 : Nat) : Int) ≤ w := by omega
    have h8 := Int.mul_le_mul_of_nonneg_right h7 (Int.le_of_lt hp)
    rw [Zcu, ← Int.mul_assoc, Int.mul_comm ((w / 128 : Nat) : Int) 128]
    omega
   rw [ih (w / 128) (by omega) (i + 1) _ rest e2 (fun _ => by omega), e1]
   simp only [List.length_cons]
   congr 2; omega
theorem uv_w {u : Int} (h : 0 ≤ u ∧ u ≤ 18446744073709551615) (rest : List Int) : uv (eU u ++ rest) = (u, (eU u).length, 0) := by
 have h1 : ((u.toNat : Nat) : Int) = u := by omega
 have := Zdx u.toNat 0 0 rest (by rw [h1]; simp; omega) (by omega)
 rw [uv, eU, this, h1]; simp
theorem Vl : ∀ (l : List Int) (i : Nat) (u v : Int) (m k : Nat), YI i u l = (v, m, 0) → (m ≤ i + k → YI i u (l.take k) = (v, m, 0)) ∧ (i + k < m → (YI i u (l.take k)).2.2 = 12)
 | [], _, _, _, _, _, h => by simp [YI] at h
 | c :: r, i, u, v, m, k, h => by
  by_cases hbad : (i = 9 ∧ 1 < c) ∨ (0 < i ∧ c = 0)
  ·rw [X5 hbad] at h; simp at h
  ·cases k with
   | zero =>
    have hm : i < m := (J9 (c :: r) i u (by rw [h])).1 |> fun q => by rw [h] at q; exact q
    exact ⟨fun hk => by omega, fun _ => rfl⟩
   | succ k =>
    by_cases hlt : c < 128
    ·rw [YZ hbad hlt] at h
     simp only [Prod.mk.injEq] at h
     obtain ⟨rfl, rfl, _⟩ := h
     exact ⟨fun _ => by rw [List.take_succ_cons, YZ hbad hlt], fun hk => by omega⟩
    ·rw [Xx hbad hlt] at h
     obtain ⟨h1, h2⟩ := Vl r (i + 1) _ v m k h
     rw [List.take_succ_cons, Xx hbad hlt]
     exact ⟨fun hk => h1 (by omega), fun hk => h2 (by omega)⟩
structure Seg (bs : List Int) (p q : Nat) (l : List Int) : Prop where
 lo : p ≤ q
 hi : q ≤ bs.length
 eq : (bs.take q).drop p = l
theorem Seg.app {bs : List Int} {p q r : Nat} {l m : List Int} (h : Seg bs p q l) (k : Seg bs q r m) : Seg bs p r (l ++ m) := by
 have := h.lo; have := h.hi; have := k.lo; have := k.hi
 refine ⟨by omega, by omega, ?_⟩
 rw [← h.eq, ← k.eq]
 have e1 : bs.take r = bs.take q ++ (bs.take r).drop q := by
  have : bs.take q = (bs.take r).take q := by rw [List.take_take]; congr 1; omega
  rw [this, List.take_append_drop]
 rw [e1, List.drop_append_of_le_length (by rw [List.length_take]; omega)]
 congr 1
 rw [← e1]
theorem Seg.nil {bs : List Int} {p : Nat} (h : p ≤ bs.length) : Seg bs p p [] := ⟨Nat.le_refl _, h, by rw [List.drop_eq_nil_of_le]; rw [List.length_take]; omega⟩
theorem Seg.of {bs : List Int} {p n : Nat} {l : List Int} (hp : p + n ≤ bs.length) (h : (bs.drop p).take n = l) : Seg bs p (p + n) l := ⟨by omega, hp, by rw [← h, List.drop_take]; congr 1; omega⟩
end Go.V
namespace Go.V
open Go
theorem AnM.ext' {x y : AnM} (h : x.err = y.err ∧ x.handle = y.handle ∧ x.value = y.value ∧ x.found = y.found ∧ x.n = y.n ∧ x.ekey = y.ekey ∧ x.eval = y.eval ∧ x.count = y.count ∧ x.sum = y.sum ∧ x.mn = y.mn ∧ x.mx = y.mx ∧ x.ents = y.ents ∧ x.chs = y.chs ∧ x.keys = y.keys ∧ x.bytes = y.bytes) : x = y := by
 cases x; cases y; simp only [AnM.mk.injEq]; exact h
structure AnT (x : AnM) : Prop where
 err : Z8 x.err
 handle : 0 ≤ x.handle ∧ x.handle ≤ 18446744073709551615
 value : Z8 x.value
 n : Z8 x.n
 ekey : Z8 x.ekey
 eval : Z8 x.eval
 count : Z8 x.count
 sum : Z8 x.sum
 mn : Z8 x.mn
 mx : Z8 x.mx
 ents : Ua x.ents
 chs : Qm x.chs
 keys : DF x.keys
 by_ : B8 x.bytes
def HV (x : AnM) : Prop := 60 < x.ents.length ∨ 60 < x.chs.length ∨ 60 < x.keys.length ∨ 300 < x.bytes.length
instance (x : AnM) : Decidable (HV x) := by unfold HV; infer_instance
theorem AnT.w {x : AnM} (h : AnT x) (hb : ¬ HV x) : AnW x := by
 unfold HV at hb
 exact ⟨h.err, h.handle, h.value, h.n, h.ekey, h.eval, h.count, h.sum, h.mn, h.mx, h.ents, h.chs, h.keys, by omega, by omega, by omega, by omega⟩
section
variable {bs : List Int}
structure AnR (bs : List Int) (x : AnM) : Prop where
 ents : x.ents.length ≤ bs.length
 chs : x.chs.length ≤ bs.length
 keys : x.keys.length ≤ bs.length
 by_ : B8 x.bytes
end
theorem Zdv {x : AnM} (h : B8 x.bytes) : B8 (YJ x) := by
 unfold YJ
 exact (((((((((((((((QB _).app (QB _)).app (YO _)).app (eF_B8 _)).app (YO _)).app (YO _)).app (YO _)).app (YO _)).app (YO _)).app (YO _)).app (YO _)).app (Cs _)).app (Zbo _)).app ((QB _).app (Db fun _ _ => YO _))).app (D4 h))
end Go.V
namespace Go.V
open Go
def Rdr {α : Type} (bs : List Int) (R : Nat → α × Nat × Int) (l : List Int) (x : α) : Prop :=
 ∀ p, p ≤ bs.length → (l <+: bs.drop p → R p = (x, p + l.length, 0)) ∧ (bs.drop p <+: l → bs.length - p < l.length → (R p).2.2 = 12)
section
variable {α β : Type} {bs : List Int}
theorem Rdr.congr {R Q : Nat → α × Nat × Int} {l : List Int} {x : α} (h : Rdr bs R l x) (e : ∀ p, Q p = R p) : Rdr bs Q l x := by rwa [show Q = R from funext e]
theorem Jh {l m t : List Int} (h : l ++ m <+: t) : l <+: t ∧ m <+: t.drop l.length := by
 obtain ⟨r, rfl⟩ := h
 exact ⟨⟨m ++ r, by simp⟩, ⟨r, by simp⟩⟩
theorem Q1 {l m t : List Int} (h : t <+: l ++ m) : (t <+: l ∧ t.length < l.length) ∨ (l <+: t ∧ t.drop l.length <+: m) := by
 obtain ⟨r, hr⟩ := h
 rcases List.append_eq_append_iff.1 hr with ⟨a, h1, h2⟩ | ⟨a, h1, h2⟩
 ·by_cases ha : a = []
  ·subst ha; refine .inr ⟨⟨[], by simpa using h1⟩, ?_⟩
   rw [show t.drop l.length = [] by rw [List.drop_eq_nil_of_le]; simp [h1]]; exact List.nil_prefix
  ·refine .inl ⟨⟨a, h1.symm⟩, ?_⟩
   rw [h1, List.length_append]
   have : 0 < a.length := List.length_pos_iff.2 ha
   omega
 ·refine .inr ⟨⟨a, h1.symm⟩, ?_⟩
  rw [h1, List.drop_left]; exact ⟨r, h2.symm⟩
theorem Rdr.bind {R1 : Nat → α × Nat × Int} {R2 : α → Nat → Int → β × Nat × Int} {l1 l2 : List Int} {x1 : α} {x2 : β} (h1 : Rdr bs R1 l1 x1) (h2 : Rdr bs (fun p => R2 x1 p 0) l2 x2) (hs : ∀ v p e, e ≠ 0 → (R2 v p e).2.2 = e) :
  Rdr bs (fun p => R2 (R1 p).1 (R1 p).2.1 (R1 p).2.2) (l1 ++ l2) x2 := fun p hp => by
 refine ⟨fun h => ?_, fun h hlt => ?_⟩
 ·obtain ⟨a, b⟩ := Jh h
  have hl := a.length_le
  rw [List.length_drop] at hl
  rw [List.drop_drop] at b
  simp only [(h1 p hp).1 a]
  have h9 := (h2 (p + l1.length) (by omega)).1 b
  simp only at h9
  rw [h9, List.length_append, Nat.add_assoc]
 ·rcases Q1 h with ⟨a, b⟩ | ⟨a, b⟩
  ·rw [List.length_drop] at b
   have := (h1 p hp).2 a b
   rw [hs _ _ _ (by rw [this]; decide), this]
  ·have hl := a.length_le
   rw [List.length_drop] at hl
   rw [List.drop_drop] at b
   simp only [(h1 p hp).1 a]
   rw [List.length_append] at hlt
   exact (h2 (p + l1.length) (by omega)).2 b (by omega)
theorem Rdr.map {R : Nat → α × Nat × Int} {l : List Int} {x : α} (g : α → β) (h : Rdr bs R l x) : Rdr bs (fun p => (g (R p).1, (R p).2)) l (g x) := fun p hp =>
 ⟨fun k => by simp only [(h p hp).1 k], fun k hk => (h p hp).2 k hk⟩
theorem Rdr.ret (x : α) : Rdr bs (fun p => (x, p, 0)) [] x := fun _ _ => ⟨fun _ => rfl, fun _ h => absurd h (Nat.not_lt_zero _)⟩
theorem Ys {u : Int} (h : 0 ≤ u ∧ u ≤ 18446744073709551615) : Rdr bs (fun p => rU bs p 0) (eU u) u := fun p _ => by
 refine ⟨fun ⟨r, hr⟩ => ?_, fun hpre hlt => ?_⟩
 ·have := uv_w h r
  simp only [rU, ← hr, this]; simp
 ·have h1 := uv_w h []
  rw [List.append_nil] at h1
  have h2 := (Vl (eU u) 0 0 u _ (bs.drop p).length h1).2 (by rw [List.length_drop]; omega)
  have h3 : (eU u).take (bs.drop p).length = bs.drop p := by obtain ⟨r, hr⟩ := hpre; rw [← hr]; simp
  rw [h3] at h2
  have h4 : (uv (bs.drop p)).2.2 = 12 := h2
  simp only [rU, h4]; simp
theorem ZE {n : Int} (h : Z8 n) : Rdr bs (fun p => rZ bs p 0) (eZ n) n := by
 have := (Ys (bs := bs) (Zbz h)).map uz
 rw [uz_zz] at this
 exact this
theorem Zco {c : Int} : Rdr bs (fun p => rB bs p 0) [c] c := fun p _ => by
 refine ⟨fun ⟨r, hr⟩ => ?_, fun hpre hlt => ?_⟩
 ·have : bs[p]? = some c := by rw [← List.head?_drop, ← hr]; rfl
  simp [rB, this]
 ·have : bs[p]? = none := List.getElem?_eq_none (by simp at hlt; omega)
  simp [rB, this]
theorem JN {b : Bool} : Rdr bs (fun p => Xo bs p 0) (eF b) b := by
 refine Rdr.congr (R := fun p => (fun v q e => ((decide (v = 1), q, if (1 : Int) < v then fl e 13 else e) : Bool × Nat × Int)) (rB bs p 0).1 (rB bs p 0).2.1 (rB bs p 0).2.2) ?_ (fun _ => rfl)
 have := Rdr.bind (R1 := fun p => rB bs p 0) (R2 := fun v q e => ((decide (v = 1), q, if (1 : Int) < v then fl e 13 else e) : Bool × Nat × Int)) (l1 := eF b) (l2 := []) (x1 := if b then 1 else 0) (x2 := b) Zco
  (by cases b <;> exact Rdr.ret _) (fun v p e he => by simp only; split <;> simp [fl, he])
 rwa [List.append_nil] at this
theorem QM {u lim : Int} (h : 0 ≤ u ∧ u ≤ 18446744073709551615) (hl : u ≤ lim) : Rdr bs (fun p => Xs bs lim p 0) (eU u) u := fun p hp => by
 refine ⟨fun k => ?_, fun k hk => ?_⟩
 ·simp only [Xs]
  have := (Ys h p hp).1 k
  simp only at this
  rw [this]; rw [if_neg (by simp only; omega)]
 ·simp only [Xs]
  have := (Ys h p hp).2 k hk
  simp only at this
  split
  ·simp [this, fl]
  ·exact this
theorem Rdr.left {R1 : Nat → Int × Nat × Int} {R2 : Int → Nat → Int → β × Nat × Int} {l1 l2 : List Int} {x1 : Int} {x2 : β} (h1 : Rdr bs R1 l1 x1) (h2 : Rdr bs (fun p => R2 x1 p 0) l2 x2) (hs : ∀ v p e, e ≠ 0 → (R2 v p e).2.2 = e) (hn : x1 ≤ l2.length) :
  Rdr bs (fun p => R2 (Zv bs (R1 p)).1 (Zv bs (R1 p)).2.1 (Zv bs (R1 p)).2.2) (l1 ++ l2) x2 := fun p hp => by
 refine ⟨fun h => ?_, fun h hlt => ?_⟩
 ·obtain ⟨a, b⟩ := Jh h
  have hl := a.length_le
  have hl2 := b.length_le
  rw [List.drop_drop] at b hl2
  rw [List.length_drop] at hl hl2
  simp only [(h1 p hp).1 a]
  have : Zv bs (x1, p + l1.length, 0) = (x1, p + l1.length, 0) := by rw [Zv, if_neg (by simp only; omega)]
  simp only [this]
  have h9 := (h2 (p + l1.length) (by omega)).1 b
  simp only at h9
  rw [h9, List.length_append, Nat.add_assoc]
 ·rcases Q1 h with ⟨a, b⟩ | ⟨a, b⟩
  ·rw [List.length_drop] at b
   have h3 := (h1 p hp).2 a b
   have h4 : (Zv bs (R1 p)).2.2 = 12 := by
    rw [Zv]; split
    ·simp [h3, fl]
    ·exact h3
   rw [hs _ _ _ (by rw [h4]; decide), h4]
  ·have hl := a.length_le
   rw [List.length_drop] at hl
   rw [List.drop_drop] at b
   simp only [(h1 p hp).1 a]
   rw [List.length_append] at hlt
   by_cases hc : (bs.length : Int) - ((p + l1.length : Nat) : Int) < x1
   ·have : Zv bs (x1, p + l1.length, 0) = (0, p + l1.length, 12) := by rw [Zv, if_pos hc]; rfl
    simp only [this]; exact hs _ _ _ (by decide)
   ·have : Zv bs (x1, p + l1.length, 0) = (x1, p + l1.length, 0) := by rw [Zv, if_neg hc]
    simp only [this]
    exact (h2 (p + l1.length) (by omega)).2 b (by omega)
theorem DR {l : List Int} : Rdr bs (fun p => Zs bs ((l.length : Int)).toNat p 0) l l := fun p hp => by
 rw [Int.toNat_natCast]
 refine ⟨fun h => ?_, fun _ hlt => ?_⟩
 ·have hl := h.length_le
  rw [List.length_drop] at hl
  simp only [Zs]
  rw [if_neg (by omega)]
  by_cases h0 : l.length = 0
  ·rw [if_pos (.inr h0), List.length_eq_zero_iff.1 h0]; rfl
  ·rw [if_neg (by simp [h0])]
   obtain ⟨r, hr⟩ := h
   rw [← hr, List.take_left]
 ·simp only [Zs]; rw [if_pos (by omega)]; rfl
theorem Ul : ∀ (l : List (Int × Int)), Ua l → Rdr bs (fun p => ZJ bs l.length p 0) (l.flatMap U4) l
 | [], _ => Rdr.ret []
 | x :: l, h => by
  have hx := h x (List.mem_cons_self ..)
  have ih := Ul l (fun y hy => h y (List.mem_cons_of_mem _ hy))
  have h3 := Rdr.bind (R2 := fun v q e => ((((x.1, v) :: (ZJ bs l.length q e).1, (ZJ bs l.length q e).2)) : List (Int × Int) × Nat × Int)) (ZE (bs := bs) hx.2) (ih.map (fun r => (x.1, x.2) :: r)) (fun v q e he => by simp only; rw [Jz he])
  have h4 := Rdr.bind (R2 := fun u q e => ((((u, (rZ bs q e).1) :: (ZJ bs l.length (rZ bs q e).2.1 (rZ bs q e).2.2).1, (ZJ bs l.length (rZ bs q e).2.1 (rZ bs q e).2.2).2)) : List (Int × Int) × Nat × Int)) (ZE (bs := bs) hx.1) h3 (fun v q e he => by
   simp only; rw [Hj he]; rw [Jz he])
  rw [List.flatMap_cons, U4, List.append_assoc]
  refine h4.congr fun p => ?_
  simp [ZJ]
theorem HN : ∀ (l : List (Int × Int × Int × Int)), Qm l → (∀ c ∈ l, 0 ≤ c.1 ∧ c.1 ≤ 255) → Rdr bs (fun p => Z7 bs l.length p 0) (l.flatMap HE) l
 | [], _, _ => Rdr.ret []
 | x :: l, h, hk => by
  have hx := h x (List.mem_cons_self ..)
  have h8 := hk x (List.mem_cons_self ..)
  have ih := HN l (fun y hy => h y (List.mem_cons_of_mem _ hy)) (fun y hy => hk y (List.mem_cons_of_mem _ hy))
  have h3 := Rdr.bind (R2 := fun v q e => ((((x.1, x.2.1, x.2.2.1, v) :: (Z7 bs l.length q e).1, (Z7 bs l.length q e).2)) : List (Int × Int × Int × Int) × Nat × Int)) (ZE (bs := bs) hx.2.2.2) (ih.map (fun r => (x.1, x.2.1, x.2.2.1, x.2.2.2) :: r)) (fun v q e he => by simp only; rw [Jg he])
  have h4 := Rdr.bind (R2 := fun u q e => ((((x.1, x.2.1, u, (rZ bs q e).1) :: (Z7 bs l.length (rZ bs q e).2.1 (rZ bs q e).2.2).1, (Z7 bs l.length (rZ bs q e).2.1 (rZ bs q e).2.2).2)) : List (Int × Int × Int × Int) × Nat × Int)) (ZE (bs := bs) hx.2.2.1) h3 (fun v q e he => by
   simp only; rw [Hj he]; rw [Jg he])
  have h5 := Rdr.bind (R2 := fun t q e => ((((x.1, t, (rZ bs q e).1, (rZ bs (rZ bs q e).2.1 (rZ bs q e).2.2).1) :: (Z7 bs l.length (rZ bs (rZ bs q e).2.1 (rZ bs q e).2.2).2.1 (rZ bs (rZ bs q e).2.1 (rZ bs q e).2.2).2.2).1, (Z7 bs l.length (rZ bs (rZ bs q e).2.1 (rZ bs q e).2.2).2.1 (rZ bs (rZ bs q e).2.1 (rZ bs q e).2.2).2.2).2)) : List (Int × Int × Int × Int) × Nat × Int)) (ZE (bs := bs) hx.2.1) h4 (fun v q e he => by
   simp only; rw [Hj he]; simp only; rw [Hj he]; simp only; rw [Jg he])
  have h6 := Rdr.bind (R2 := fun s q e => ((((s, (rZ bs q e).1, (rZ bs (rZ bs q e).2.1 (rZ bs q e).2.2).1, (rZ bs (rZ bs (rZ bs q e).2.1 (rZ bs q e).2.2).2.1 (rZ bs (rZ bs q e).2.1 (rZ bs q e).2.2).2.2).1) :: (Z7 bs l.length (rZ bs (rZ bs (rZ bs q e).2.1 (rZ bs q e).2.2).2.1 (rZ bs (rZ bs q e).2.1 (rZ bs q e).2.2).2.2).2.1 (rZ bs (rZ bs (rZ bs q e).2.1 (rZ bs q e).2.2).2.1 (rZ bs (rZ bs q e).2.1 (rZ bs q e).2.2).2.2).2.2).1, (Z7 bs l.length (rZ bs (rZ bs (rZ bs q e).2.1 (rZ bs q e).2.2).2.1 (rZ bs (rZ bs q e).2.1 (rZ bs q e).2.2).2.2).2.1 (rZ bs (rZ bs (rZ bs q e).2.1 (rZ bs q e).2.2).2.1 (rZ bs (rZ bs q e).2.1 (rZ bs q e).2.2).2.2).2.2).2)) : List (Int × Int × Int × Int) × Nat × Int)) (Zco (bs := bs) (c := x.1)) h5 (fun v q e he => by
   simp only; rw [Hj he]; simp only; rw [Hj he]; simp only; rw [Hj he]; simp only; rw [Jg he])
  rw [List.flatMap_cons, HE, show x.1 % 256 = x.1 by omega]
  simp only [List.append_assoc, List.cons_append]
  refine Rdr.congr (R := _) h6 fun p => ?_
  simp [Z7]
theorem UX : ∀ (l : List Int), DF l → Rdr bs (fun p => Yq bs l.length p 0) (l.flatMap eZ) l
 | [], _ => Rdr.ret []
 | x :: l, h => by
  have hx := h x (List.mem_cons_self ..)
  have ih := UX l (fun y hy => h y (List.mem_cons_of_mem _ hy))
  have h3 := Rdr.bind (R2 := fun v q e => (((v :: (Yq bs l.length q e).1, (Yq bs l.length q e).2)) : List Int × Nat × Int)) (ZE (bs := bs) hx) (ih.map (fun r => x :: r)) (fun v q e he => by simp only; rw [QK he])
  rw [List.flatMap_cons]
  refine h3.congr fun p => ?_
  simp [Yq]
theorem XN (u : Nat) : 1 ≤ (Zu u).length := by
 by_cases h : u < 128
 ·rw [Yb h]; simp
 ·rw [Yc h]; simp
theorem Za9 {x : Int × Int} : 1 ≤ (U4 x).length := by
 rw [U4, List.length_append]; have := XN (zz x.1).toNat; unfold eZ; omega
theorem QT {γ : Type} {f : γ → List Int} : ∀ {l : List γ}, (∀ x ∈ l, 1 ≤ (f x).length) → l.length ≤ (l.flatMap f).length
 | [], _ => Nat.le_refl _
 | x :: l, h => by
  have h1 := h x (List.mem_cons_self ..)
  have h2 := QT (f := f) (l := l) fun y hy => h y (List.mem_cons_of_mem _ hy)
  rw [List.flatMap_cons, List.length_append, List.length_cons]; omega
theorem JV {n : Nat} {p : Nat} {e : Int} (h : e ≠ 0) : (ZJ bs n p e).2.2 = e := by rw [Jz h]
theorem Uc {n : Nat} {p : Nat} {e : Int} (h : e ≠ 0) : (Z7 bs n p e).2.2 = e := by rw [Jg h]
theorem J1 {n : Nat} {p : Nat} {e : Int} (h : e ≠ 0) : (Yq bs n p e).2.2 = e := by rw [QK h]
section
variable {R1 : Nat → Int × Nat × Int}
theorem Jm {l : List (Int × Int)} (h : Ua l) (h1 : Rdr bs R1 (eU l.length) l.length) : Rdr bs (fun p => ZJ bs (Zv bs (R1 p)).1.toNat (Zv bs (R1 p)).2.1 (Zv bs (R1 p)).2.2) (YF l) l := by
 have h2 := Ul (bs := bs) l h
 exact Rdr.left (R2 := fun v p e => ZJ bs v.toNat p e) h1 (by simp only [Int.toNat_natCast]; exact h2) (fun _ _ _ he => JV he) (Int.ofNat_le.2 (QT (f := U4) (l := l) fun x _ => Za9))
theorem JF {l : List (Int × Int × Int × Int)} (h : Qm l) (hk : ∀ c ∈ l, 0 ≤ c.1 ∧ c.1 ≤ 255) (h1 : Rdr bs R1 (eU l.length) l.length) : Rdr bs (fun p => Z7 bs (Zv bs (R1 p)).1.toNat (Zv bs (R1 p)).2.1 (Zv bs (R1 p)).2.2) (XO l) l := by
 have h2 := HN (bs := bs) l h hk
 exact Rdr.left (R2 := fun v p e => Z7 bs v.toNat p e) h1 (by simp only [Int.toNat_natCast]; exact h2) (fun _ _ _ he => Uc he) (Int.ofNat_le.2 (QT (f := HE) (l := l) fun x _ => (by rw [HE, List.length_cons]; omega)))
theorem Jk {l : List Int} (h : DF l) (h1 : Rdr bs R1 (eU l.length) l.length) : Rdr bs (fun p => Yq bs (Zv bs (R1 p)).1.toNat (Zv bs (R1 p)).2.1 (Zv bs (R1 p)).2.2) (eU l.length ++ l.flatMap eZ) l := by
 have h2 := UX (bs := bs) l h
 exact Rdr.left (R2 := fun v p e => Yq bs v.toNat p e) h1 (by simp only [Int.toNat_natCast]; exact h2) (fun _ _ _ he => J1 he) (Int.ofNat_le.2 (QT (f := eZ) (l := l) fun x _ => XN _))
theorem Qb {l : List Int} (h1 : Rdr bs R1 (eU l.length) l.length) : Rdr bs (fun p => Zs bs (Zv bs (R1 p)).1.toNat (Zv bs (R1 p)).2.1 (Zv bs (R1 p)).2.2) (Yp l) l :=
 Rdr.left (R2 := fun v p e => Zs bs v.toNat p e) h1 DR (fun _ _ _ he => Cm he) (Int.le_refl _)
end
theorem Zeu {y : AnM} (hw : AnT y) (he : 0 ≤ y.err ∧ y.err ≤ 255) (hk : ∀ c ∈ y.chs, 0 ≤ c.1 ∧ c.1 ≤ 255) (h4 : y.ents.length ≤ 1000000) (h5 : y.chs.length ≤ 1000000) (h6 : y.keys.length ≤ 1000000) (h7 : y.bytes.length ≤ 1000000) {p : Nat} (hp : p ≤ bs.length) (h : YJ y <+: bs.drop p) : Yr bs p = (y, p + (YJ y).length, 0) := by
 unfold YJ at h ⊢
 rw [show y.err % 18446744073709551616 = y.err by omega] at h ⊢
 simp only [List.append_assoc] at h
 have stp : ∀ {l m : List Int} {q : Nat}, l ++ m <+: bs.drop q → l <+: bs.drop q ∧ m <+: bs.drop (q + l.length) := fun k => by
  have := Jh k; rwa [List.drop_drop] at this
 have lele : ∀ {l : List Int} {q : Nat}, l <+: bs.drop q → q ≤ bs.length → q + l.length ≤ bs.length := fun k hq => by
  have := k.length_le; rw [List.length_drop] at this; omega
 obtain ⟨a1, h⟩ := stp h; have p1 := lele a1 hp; have r1 := (QM (lim := 255) (by omega) he.2 _ hp).1 a1
 obtain ⟨a2, h⟩ := stp h; have p2 := lele a2 p1; have r2 := (Ys hw.handle _ p1).1 a2
 obtain ⟨a3, h⟩ := stp h; have p3 := lele a3 p2; have r3 := (ZE hw.value _ p2).1 a3
 obtain ⟨a4, h⟩ := stp h; have p4 := lele a4 p3; have r4 := (JN _ p3).1 a4
 obtain ⟨a5, h⟩ := stp h; have p5 := lele a5 p4; have r5 := (ZE hw.n _ p4).1 a5
 obtain ⟨a6, h⟩ := stp h; have p6 := lele a6 p5; have r6 := (ZE hw.ekey _ p5).1 a6
 obtain ⟨a7, h⟩ := stp h; have p7 := lele a7 p6; have r7 := (ZE hw.eval _ p6).1 a7
 obtain ⟨a8, h⟩ := stp h; have p8 := lele a8 p7; have r8 := (ZE hw.count _ p7).1 a8
 obtain ⟨a9, h⟩ := stp h; have p9 := lele a9 p8; have r9 := (ZE hw.sum _ p8).1 a9
 obtain ⟨a10, h⟩ := stp h; have p10 := lele a10 p9; have r10 := (ZE hw.mn _ p9).1 a10
 obtain ⟨a11, h⟩ := stp h; have p11 := lele a11 p10; have r11 := (ZE hw.mx _ p10).1 a11
 obtain ⟨a13, h⟩ := stp h; have p13 := lele a13 p11; have r13 := (Jm hw.ents (Ys (by omega)) _ p11).1 a13
 obtain ⟨a15, h⟩ := stp h; have p15 := lele a15 p13; have r15 := (JF hw.chs hk (Ys (by omega)) _ p13).1 a15
 rw [← List.append_assoc (eU _)] at h
 obtain ⟨a17, a19⟩ := stp h; have p17 := lele a17 p15; have r17 := (Jk hw.keys (Ys (by omega)) _ p15).1 a17
 have r19 := (Qb (Ys (by omega)) _ p17).1 a19
 simp only at r1 r2 r3 r4 r5 r6 r7 r8 r9 r10 r11 r13 r15 r17 r19
 simp only [Yr, r1, QO, r2, Uh, r3, Uj, r4, UZ, r5, Hl, r6, HO, r7, D7, r8, Ce, r9, CA, r10, Ql, r11, Q8, Q2, Yy, r13, UP, Uq, r15, Hm, Hf, r17, DC, DE, r19, VT]
 simp only [List.length_append, Prod.mk.injEq, and_true, true_and]
 omega
end
end Go.V
namespace Go.V
open Go
section
variable {bs : List Int}
theorem Zb6 {e c : Int} (h : e ≠ 0) : fl e c = e := by unfold fl; rw [if_neg h]
theorem H1 {p : Nat} {e : Int} (h : e ≠ 0) : (rU bs p e).2.2 = e := by unfold rU; rw [if_pos h]
theorem Yv {p : Nat} {e : Int} (h : e ≠ 0) : (rZ bs p e).2.2 = e := H1 h
theorem UD {p : Nat} {e : Int} (h : e ≠ 0) : (Xo bs p e).2.2 = e := by
 unfold Xo rB; simp only [if_pos h]; rfl
theorem VC {r : Int × Nat × Int} (h : r.2.2 ≠ 0) : (Zv bs r).2.2 = r.2.2 := by
 unfold Zv; split
 ·exact Zb6 h
 ·rfl
theorem YN {p : Nat} {e : Int} (h : e ≠ 0) : (Yy bs p e).2.2 = e := by
 have := H1 (bs := bs) (p := p) h
 unfold Yy; rw [VC (by rw [this]; exact h), this]
theorem Cb {n p : Nat} {e : Int} (h : e ≠ 0) : (Zs bs n p e).2.2 = e := by
 unfold Zs; split
 ·exact Zb6 h
 ·rw [if_pos (.inl h)]
variable {r1 : Int × Nat × Int} {r2 : Int × Nat × Int} {r3 : Int × Nat × Int} {r4 : Bool × Nat × Int} {r5 : Int × Nat × Int} {r6 : Int × Nat × Int} {r7 : Int × Nat × Int} {r8 : Int × Nat × Int} {r9 : Int × Nat × Int} {r10 : Int × Nat × Int} {r11 : Int × Nat × Int} {r12 : Int × Nat × Int} {r13 : List (Int × Int) × Nat × Int} {r14 : Int × Nat × Int} {r15 : List (Int × Int × Int × Int) × Nat × Int} {r16 : Int × Nat × Int} {r17 : List Int × Nat × Int} {r18 : Int × Nat × Int} {r19 : List Int × Nat × Int}
theorem Zdk (h : r18.2.2 ≠ 0) : (DE bs r1 r2 r3 r4 r5 r6 r7 r8 r9 r10 r11 r13 r15 r17 r18).2.2 = r18.2.2 := Cb h
theorem VJ (h : r17.2.2 ≠ 0) : (DC bs r1 r2 r3 r4 r5 r6 r7 r8 r9 r10 r11 r13 r15 r17).2.2 = r17.2.2 :=
 (Zdk (by rw [YN h]; exact h)).trans (YN h)
theorem Zcz (h : r16.2.2 ≠ 0) : (Hf bs r1 r2 r3 r4 r5 r6 r7 r8 r9 r10 r11 r13 r15 r16).2.2 = r16.2.2 :=
 (VJ (by rw [J1 h]; exact h)).trans (J1 h)
theorem CL (h : r15.2.2 ≠ 0) : (Hm bs r1 r2 r3 r4 r5 r6 r7 r8 r9 r10 r11 r13 r15).2.2 = r15.2.2 :=
 (Zcz (by rw [YN h]; exact h)).trans (YN h)
theorem Zdr (h : r14.2.2 ≠ 0) : (Uq bs r1 r2 r3 r4 r5 r6 r7 r8 r9 r10 r11 r13 r14).2.2 = r14.2.2 :=
 (CL (by rw [Uc h]; exact h)).trans (Uc h)
theorem Cn (h : r13.2.2 ≠ 0) : (UP bs r1 r2 r3 r4 r5 r6 r7 r8 r9 r10 r11 r13).2.2 = r13.2.2 :=
 (Zdr (by rw [YN h]; exact h)).trans (YN h)
theorem Zdy (h : r12.2.2 ≠ 0) : (Q2 bs r1 r2 r3 r4 r5 r6 r7 r8 r9 r10 r11 r12).2.2 = r12.2.2 :=
 (Cn (by rw [JV h]; exact h)).trans (JV h)
theorem Vq (h : r11.2.2 ≠ 0) : (Q8 bs r1 r2 r3 r4 r5 r6 r7 r8 r9 r10 r11).2.2 = r11.2.2 :=
 (Zdy (by rw [YN h]; exact h)).trans (YN h)
theorem Cu (h : r10.2.2 ≠ 0) : (Ql bs r1 r2 r3 r4 r5 r6 r7 r8 r9 r10).2.2 = r10.2.2 :=
 (Vq (by rw [Yv h]; exact h)).trans (Yv h)
theorem Zb1 (h : r9.2.2 ≠ 0) : (CA bs r1 r2 r3 r4 r5 r6 r7 r8 r9).2.2 = r9.2.2 :=
 (Cu (by rw [Yv h]; exact h)).trans (Yv h)
theorem Zcl (h : r8.2.2 ≠ 0) : (Ce bs r1 r2 r3 r4 r5 r6 r7 r8).2.2 = r8.2.2 :=
 (Zb1 (by rw [Yv h]; exact h)).trans (Yv h)
theorem Zb2 (h : r7.2.2 ≠ 0) : (D7 bs r1 r2 r3 r4 r5 r6 r7).2.2 = r7.2.2 :=
 (Zcl (by rw [Yv h]; exact h)).trans (Yv h)
theorem Zci (h : r6.2.2 ≠ 0) : (HO bs r1 r2 r3 r4 r5 r6).2.2 = r6.2.2 :=
 (Zb2 (by rw [Yv h]; exact h)).trans (Yv h)
theorem Zcg (h : r5.2.2 ≠ 0) : (Hl bs r1 r2 r3 r4 r5).2.2 = r5.2.2 :=
 (Zci (by rw [Yv h]; exact h)).trans (Yv h)
theorem Zch (h : r4.2.2 ≠ 0) : (UZ bs r1 r2 r3 r4).2.2 = r4.2.2 :=
 (Zcg (by rw [Yv h]; exact h)).trans (Yv h)
theorem Zb8 (h : r3.2.2 ≠ 0) : (Uj bs r1 r2 r3).2.2 = r3.2.2 :=
 (Zch (by rw [UD h]; exact h)).trans (UD h)
theorem Zcj (h : r2.2.2 ≠ 0) : (Uh bs r1 r2).2.2 = r2.2.2 :=
 (Zb8 (by rw [Yv h]; exact h)).trans (Yv h)
theorem an1_e (h : r1.2.2 ≠ 0) : (QO bs r1).2.2 = r1.2.2 :=
 (Zcj (by rw [H1 h]; exact h)).trans (H1 h)
end
section
variable {bs : List Int}
theorem VV {y : AnM} (hw : AnT y) (he : 0 ≤ y.err ∧ y.err ≤ 255) (hk : ∀ c ∈ y.chs, 0 ≤ c.1 ∧ c.1 ≤ 255) (h4 : y.ents.length ≤ 1000000) (h5 : y.chs.length ≤ 1000000) (h6 : y.keys.length ≤ 1000000) (h7 : y.bytes.length ≤ 1000000) {p : Nat} (hp : p ≤ bs.length) (h : bs.drop p <+: YJ y) (hl : bs.length - p < (YJ y).length) : (Yr bs p).2.2 = 12 := by
 unfold YJ at h hl
 rw [show y.err % 18446744073709551616 = y.err by omega] at h hl
 rw [List.append_assoc, List.append_assoc, List.append_assoc, List.append_assoc, List.append_assoc, List.append_assoc, List.append_assoc, List.append_assoc, List.append_assoc, List.append_assoc, List.append_assoc, List.append_assoc, List.append_assoc] at h hl
 have stp : ∀ {l m : List Int} {q : Nat}, q ≤ bs.length → bs.drop q <+: l ++ m → bs.length - q < (l ++ m).length → (bs.drop q <+: l ∧ bs.length - q < l.length) ∨ (l <+: bs.drop q ∧ q + l.length ≤ bs.length ∧ bs.drop (q + l.length) <+: m ∧ bs.length - (q + l.length) < m.length) := fun {l m q} hq k kl => by
  rw [List.length_append] at kl
  rcases Q1 k with ⟨a, b⟩ | ⟨a, b⟩
  ·rw [List.length_drop] at b; exact .inl ⟨a, b⟩
  ·have := a.length_le; rw [List.length_drop] at this; rw [List.drop_drop] at b
   exact .inr ⟨a, by omega, b, by omega⟩
 rcases stp hp h hl with ⟨c, cl⟩ | ⟨a1, p1, h, hl⟩
 ·have r := (QM (lim := 255) (by omega) he.2 _ hp).2 c cl
  simp only at r
  simp only [Yr]
  exact (an1_e (by rw [r]; decide)).trans r
 have r1 := (QM (lim := 255) (by omega) he.2 _ hp).1 a1
 simp only at r1
 rcases stp p1 h hl with ⟨c, cl⟩ | ⟨a2, p2, h, hl⟩
 ·have r := (Ys hw.handle _ p1).2 c cl
  simp only at r
  simp only [Yr, r1, QO]
  exact (Zcj (by rw [r]; decide)).trans r
 have r2 := (Ys hw.handle _ p1).1 a2
 simp only at r2
 rcases stp p2 h hl with ⟨c, cl⟩ | ⟨a3, p3, h, hl⟩
 ·have r := (ZE hw.value _ p2).2 c cl
  simp only at r
  simp only [Yr, r1, QO, r2, Uh]
  exact (Zb8 (by rw [r]; decide)).trans r
 have r3 := (ZE hw.value _ p2).1 a3
 simp only at r3
 rcases stp p3 h hl with ⟨c, cl⟩ | ⟨a4, p4, h, hl⟩
 ·have r := (JN _ p3).2 c cl
  simp only at r
  simp only [Yr, r1, QO, r2, Uh, r3, Uj]
  exact (Zch (by rw [r]; decide)).trans r
 have r4 := (JN _ p3).1 a4
 simp only at r4
 rcases stp p4 h hl with ⟨c, cl⟩ | ⟨a5, p5, h, hl⟩
 ·have r := (ZE hw.n _ p4).2 c cl
  simp only at r
  simp only [Yr, r1, QO, r2, Uh, r3, Uj, r4, UZ]
  exact (Zcg (by rw [r]; decide)).trans r
 have r5 := (ZE hw.n _ p4).1 a5
 simp only at r5
 rcases stp p5 h hl with ⟨c, cl⟩ | ⟨a6, p6, h, hl⟩
 ·have r := (ZE hw.ekey _ p5).2 c cl
  simp only at r
  simp only [Yr, r1, QO, r2, Uh, r3, Uj, r4, UZ, r5, Hl]
  exact (Zci (by rw [r]; decide)).trans r
 have r6 := (ZE hw.ekey _ p5).1 a6
 simp only at r6
 rcases stp p6 h hl with ⟨c, cl⟩ | ⟨a7, p7, h, hl⟩
 ·have r := (ZE hw.eval _ p6).2 c cl
  simp only at r
  simp only [Yr, r1, QO, r2, Uh, r3, Uj, r4, UZ, r5, Hl, r6, HO]
  exact (Zb2 (by rw [r]; decide)).trans r
 have r7 := (ZE hw.eval _ p6).1 a7
 simp only at r7
 rcases stp p7 h hl with ⟨c, cl⟩ | ⟨a8, p8, h, hl⟩
 ·have r := (ZE hw.count _ p7).2 c cl
  simp only at r
  simp only [Yr, r1, QO, r2, Uh, r3, Uj, r4, UZ, r5, Hl, r6, HO, r7, D7]
  exact (Zcl (by rw [r]; decide)).trans r
 have r8 := (ZE hw.count _ p7).1 a8
 simp only at r8
 rcases stp p8 h hl with ⟨c, cl⟩ | ⟨a9, p9, h, hl⟩
 ·have r := (ZE hw.sum _ p8).2 c cl
  simp only at r
  simp only [Yr, r1, QO, r2, Uh, r3, Uj, r4, UZ, r5, Hl, r6, HO, r7, D7, r8, Ce]
  exact (Zb1 (by rw [r]; decide)).trans r
 have r9 := (ZE hw.sum _ p8).1 a9
 simp only at r9
 rcases stp p9 h hl with ⟨c, cl⟩ | ⟨a10, p10, h, hl⟩
 ·have r := (ZE hw.mn _ p9).2 c cl
  simp only at r
  simp only [Yr, r1, QO, r2, Uh, r3, Uj, r4, UZ, r5, Hl, r6, HO, r7, D7, r8, Ce, r9, CA]
  exact (Cu (by rw [r]; decide)).trans r
 have r10 := (ZE hw.mn _ p9).1 a10
 simp only at r10
 rcases stp p10 h hl with ⟨c, cl⟩ | ⟨a11, p11, h, hl⟩
 ·have r := (ZE hw.mx _ p10).2 c cl
  simp only at r
  simp only [Yr, r1, QO, r2, Uh, r3, Uj, r4, UZ, r5, Hl, r6, HO, r7, D7, r8, Ce, r9, CA, r10, Ql]
  exact (Vq (by rw [r]; decide)).trans r
 have r11 := (ZE hw.mx _ p10).1 a11
 simp only at r11
 rcases stp p11 h hl with ⟨c, cl⟩ | ⟨a13, p13, h, hl⟩
 ·have r := (Jm hw.ents (Ys (by omega)) _ p11).2 c cl
  simp only at r
  simp only [Yr, r1, QO, r2, Uh, r3, Uj, r4, UZ, r5, Hl, r6, HO, r7, D7, r8, Ce, r9, CA, r10, Ql, r11, Q8, Q2, Yy]
  exact (Cn (by rw [r]; decide)).trans r
 have r13 := (Jm hw.ents (Ys (by omega)) _ p11).1 a13
 simp only at r13
 rcases stp p13 h hl with ⟨c, cl⟩ | ⟨a15, p15, h, hl⟩
 ·have r := (JF hw.chs hk (Ys (by omega)) _ p13).2 c cl
  simp only at r
  simp only [Yr, r1, QO, r2, Uh, r3, Uj, r4, UZ, r5, Hl, r6, HO, r7, D7, r8, Ce, r9, CA, r10, Ql, r11, Q8, Q2, Yy, r13, UP, Uq]
  exact (CL (by rw [r]; decide)).trans r
 have r15 := (JF hw.chs hk (Ys (by omega)) _ p13).1 a15
 simp only at r15
 rcases stp p15 h hl with ⟨c, cl⟩ | ⟨a17, p17, h, hl⟩
 ·have r := (Jk hw.keys (Ys (by omega)) _ p15).2 c cl
  simp only at r
  simp only [Yr, r1, QO, r2, Uh, r3, Uj, r4, UZ, r5, Hl, r6, HO, r7, D7, r8, Ce, r9, CA, r10, Ql, r11, Q8, Q2, Yy, r13, UP, Uq, r15, Hm, Hf]
  exact (VJ (by rw [r]; decide)).trans r
 have r17 := (Jk hw.keys (Ys (by omega)) _ p15).1 a17
 simp only at r17
 have r := (Qb (Ys (by omega)) _ p17).2 h hl
 simp only at r
 simp only [Yr, r1, QO, r2, Uh, r3, Uj, r4, UZ, r5, Hl, r6, HO, r7, D7, r8, Ce, r9, CA, r10, Ql, r11, Q8, Q2, Yy, r13, UP, Uq, r15, Hm, Hf, r17, DC, DE]
 exact r
theorem nxa_t {y : AnM} (hw : AnT y) (he : 0 ≤ y.err ∧ y.err ≤ 255) (hk : ∀ c ∈ y.chs, 0 ≤ c.1 ∧ c.1 ≤ 255) (h4 : y.ents.length ≤ 1000000) (h5 : y.chs.length ≤ 1000000) (h6 : y.keys.length ≤ 1000000) (h7 : y.bytes.length ≤ 1000000) {p : Nat} (hp : p ≤ bs.length) (h : bs.drop p <+: YJ y) (hl : bs.length - p < (YJ y).length) : ZH bs (p : Int) = (VA, 0, 12) := by
 have := VV hw he hk h4 h5 h6 h7 hp h hl
 rw [ZH, if_neg (by omega), Int.toNat_natCast, this]; rfl
theorem Zdz {y : AnM} (hw : AnT y) (he : 0 ≤ y.err ∧ y.err ≤ 255) (hk : ∀ c ∈ y.chs, 0 ≤ c.1 ∧ c.1 ≤ 255) (h4 : y.ents.length ≤ 1000000) (h5 : y.chs.length ≤ 1000000) (h6 : y.keys.length ≤ 1000000) (h7 : y.bytes.length ≤ 1000000) {p : Nat} (hp : p ≤ bs.length) (h : YJ y <+: bs.drop p) : ZH bs (p : Int) = (y, ((p + (YJ y).length : Nat) : Int), 0) := by
 have := Zeu hw he hk h4 h5 h6 h7 hp h
 rw [ZH, if_neg (by omega), Int.toNat_natCast, this]; rfl
end
end Go.V
namespace Go.V
open Go Go.RowKit
structure AnS where
 x : AnM
 ab : Option Addr
 ae : Option Addr
 ac : Option Addr
 ak : Option Addr
 cb : Nat
 ce : Nat
 cc : Nat
 ck : Nat
def anC (z : AnS) : List Value := [.int .i64 z.x.err, .int .u64 z.x.handle, .int .i64 z.x.value, .bool z.x.found, .int .i64 z.x.n, .int .i64 z.x.ekey, .int .i64 z.x.eval, .int .i64 z.x.count, .int .i64 z.x.sum, .int .i64 z.x.mn, .int .i64 z.x.mx, .slice z.ae (Zo z.x.ents).length z.ce, .slice z.ac (Zn z.x.chs).length z.cc, .slice z.ak (Zb z.x.keys).length z.ck, .slice z.ab (Za z.x.bytes).length z.cb]
def Z5 (l : List AnS) : List (List Value) := l.map anC
@[simp] theorem Yg (l : List AnS) : (Z5 l).length = l.length := by simp [Z5]
theorem Z6 {l : List AnS} {k : Nat} {z : AnS} (h : l[k]? = some z) : (Z5 l)[k]? = some (anC z) := by simp [Z5, h]
theorem US (l : List AnS) (z : AnS) : Z5 l ++ [anC z] = Z5 (l ++ [z]) := by simp [Z5]
theorem Zbb (l : List AnS) (k : Nat) (z : AnS) : (Z5 l).set k (anC z) = Z5 (l.set k z) := by unfold Z5; rw [List.map_set]
theorem Zdc (l : List AnS) : OkE 15 (Z5 l) := fun x hx => by
 obtain ⟨y, _, rfl⟩ := List.mem_map.1 hx
 exact ⟨rfl, fun u hu => by simp [anC] at hu; rcases hu with rfl | rfl | rfl | rfl | rfl | rfl | rfl | rfl | rfl | rfl | rfl | rfl | rfl | rfl | rfl <;> rfl⟩
def anF (z : AnS) : List HP := [Sh 5 1 (Za z.x.bytes) z.ab z.cb, Sh 27 2 (Zo z.x.ents) z.ae z.ce, Sh 88 4 (Zn z.x.chs) z.ac z.cc, Sh 2 1 (Zb z.x.keys) z.ak z.ck]
theorem Ho (z : AnS) : ∀ A ∈ anF z, Sht A := fun A hA => by
 simp only [anF, List.mem_cons, List.not_mem_nil, or_false] at hA
 rcases hA with rfl | rfl | rfl | rfl <;> exact Sht.sh
theorem H5 {ms : List AnS} {z : AnS} (y : AnS) (h : y ∈ ms ++ [z]) : y ∈ z :: ms := by
 rcases List.mem_append.1 h with h | h
 ·exact List.mem_cons_of_mem _ h
 ·rw [List.mem_singleton.1 h]; exact List.mem_cons_self ..
def Zz (l : List AnM) : List Int := l.flatMap YJ
theorem Xp {l : List AnM} {k : Nat} {x : AnM} (h : l[k]? = some x) : Zz (l.take (k + 1)) = Zz (l.take k) ++ YJ x := Xd _ h
theorem Q_ {l : List AnM} {k : Nat} (h : l.length ≤ k) : Zz (l.take k) = Zz l := XP _ h
theorem Xu {x : AnM} (h : AnW x) : 2 ≤ (YJ x).length ∧ (YJ x).length ≤ 10000 := by
 have h0 := h.le; have h0' := h.lc; have h0'' := h.lk; have h0''' := h.lb
 have h1 := ZO (u := x.err % 18446744073709551616) (by omega)
 have h2 := ZO h.handle.2
 have h3 := Zl h.value
 have h5 := Zl h.n
 have h6 := Zl h.ekey
 have h7 := Zl h.eval
 have h8 := Zl h.count
 have h9 := Zl h.sum
 have h10 := Zl h.mn
 have h11 := Zl h.mx
 have h12 := Jd h.ents (by omega)
 have h13 := JY h.chs (by omega)
 have h14 := ZO (u := (x.keys.length : Int)) (by omega)
 have h15 := Dv h.keys
 have h16 := XQ (l := x.bytes) (by omega)
 have h4 : (eF x.found).length = 1 := by simp [eF]
 have h17 : 1 ≤ (eU x.handle).length := XN _
 unfold YJ
 simp only [List.length_append]
 omega
theorem Dn {l : List AnM} (h : ∀ x ∈ l, AnW x) : (Zz l).length ≤ 10000 * l.length := JZ fun x hx => (Xu (h x hx)).2
theorem C9 {l : List AnM} (h : ∀ x ∈ l, B8 x.bytes) : B8 (Zz l) := Db fun x hx => Zdv (h x hx)
theorem VQ {l : List AnM} {k : Nat} {x : AnM} (h : l[k]? = some x) : ∃ r, Zz l = Zz (l.take k) ++ (YJ x ++ r) := by
 refine ⟨Zz (l.drop (k + 1)), ?_⟩
 have h1 : l = l.take k ++ x :: l.drop (k + 1) := by
  have h2 := List.getElem?_eq_some_iff.1 h
  obtain ⟨hk, rfl⟩ := h2
  rw [← List.drop_eq_getElem_cons hk, List.take_append_drop]
 conv => lhs; rw [h1]
 simp [Zz]
theorem HH {l : List AnM} {k : Nat} {x : AnM} (hw : ∀ x ∈ l, AnW x) (h : l[k]? = some x) : (Zz (l.take k)).length < (Zz l).length := by
 obtain ⟨r, hr⟩ := VQ h
 have := (Xu (hw x (List.mem_of_getElem? h))).1
 rw [hr]; simp only [List.length_append]; omega
structure AnOk (x : AnM) : Prop where
 t : AnT x
 w : AnW x
 e : 0 ≤ x.err ∧ x.err ≤ 255
 c : x.chs = []
theorem AnOk.chs {x : AnM} (h : AnOk x) : ∀ c ∈ x.chs, 0 ≤ c.1 ∧ c.1 ≤ 255 := by rw [h.c]; exact fun _ h => by cases h
theorem CD {l : List AnM} {t : List Int} {k : Nat} {x : AnM} (hw : ∀ x ∈ l, AnOk x) (h : l[k]? = some x) : ZH (Zz l ++ t) ((Zz (l.take k)).length : Int) = (x, ((Zz (l.take (k + 1))).length : Int), 0) := by
 obtain ⟨r, hr⟩ := VQ h
 have hx := hw x (List.mem_of_getElem? h)
 have h1 := hx.w
 have := Zdz (bs := Zz l ++ t) (p := (Zz (l.take k)).length) hx.t hx.e hx.chs (by have := h1.le; omega) (by have := h1.lc; omega) (by have := h1.lk; omega) (by have := h1.lb; omega) (by rw [hr]; simp only [List.length_append]; omega) (by
  rw [hr, List.append_assoc, List.drop_left, List.append_assoc]; exact List.prefix_append _ _)
 rw [this, Xp h, List.length_append]
theorem HL {l : List AnM} (hw : ∀ x ∈ l, AnOk x) (k : Nat) (x : AnM) (h : l[k]? = some x) : ZH (Zz l) ((Zz (l.take k)).length : Int) = (x, ((Zz (l.take (k + 1))).length : Int), 0) ∧ (Zz (l.take k)).length < (Zz l).length :=
 ⟨by have := CD (t := []) hw h; rwa [List.append_nil] at this, HH (fun x hx => (hw x hx).w) h⟩
theorem Zbi {l : List AnM} {t : List Int} {y : AnM} (hy : AnOk y) (hp : t <+: YJ y) (hl : t.length < (YJ y).length) : ZH (Zz l ++ t) ((Zz l).length : Int) = (VA, 0, 12) := by
 have h1 := hy.w
 exact nxa_t (bs := Zz l ++ t) (p := (Zz l).length) hy.t hy.e hy.chs (by have := h1.le; omega) (by have := h1.lc; omega) (by have := h1.lk; omega) (by have := h1.lb; omega) (by simp) (by rw [List.drop_left]; exact hp) (by simp only [List.length_append]; omega)
end Go.V
namespace Go.V
open Go Go.RowKit
theorem St.shsDup {α : Type} {f : α → List HP} {zs : List α} {g w : World} {L : List HP} (h : St g L w) (i : Nat) (hi : L[i]? = some (ZP f zs)) : St g (ZP f zs :: L) w := by
 obtain ⟨o, r, a, b, c, d, e⟩ := h.own
 obtain ⟨o1, o2, h1, h2, hd, hh, hL⟩ := All.perm (XC hi) e
 exact ⟨h.os, h.tape, h.output, h.size, o, r, a, b, c, d, All.cat [ZP f zs] L (fun _ _ h => by cases h) (Sub.refl _) (Dj.none _) ⟨fun _ => none, fun _ => none, Sub.refl _, Sub.refl _, Dj.none _, hh, trivial⟩ e⟩
end Go.V
namespace Go.Proofs.YtlifpobidhfbfaaGreatDoor
open Go Go.V Go.RowKit
variable {g w : World} {L : List HP}
theorem appA0 (x : AnM) (ab ae ac ak : Option Addr) (cb ce cc ck : Nat) (hw : AnW x) (Z : St g (Sh 5 1 (Za x.bytes) ab cb :: Sh 27 2 (Zo x.ents) ae ce :: Sh 88 4 (Zn x.chs) ac cc :: Sh 2 1 (Zb x.keys) ak ck :: L) w) :
  Sp Tryz.prog 13 [.slice none 0 0, .agg #[.int .i64 x.err, .int .u64 x.handle, .int .i64 x.value, .bool x.found, .int .i64 x.n, .int .i64 x.ekey, .int .i64 x.eval, .int .i64 x.count, .int .i64 x.sum, .int .i64 x.mn, .int .i64 x.mx, .slice ae (Zo x.ents).length ce, .slice ac (Zn x.chs).length cc, .slice ak (Zb x.keys).length ck, .slice ab (Za x.bytes).length cb]] w (fun v w' => ∃ (a2 : Option Addr) (c2 : Nat), v = .slice a2 (Za (YJ x)).length c2 ∧ St g (Ze 5 1 (Za (YJ x)) a2 c2 :: Sh 5 1 (Za x.bytes) ab cb :: Sh 27 2 (Zo x.ents) ae ce :: Sh 88 4 (Zn x.chs) ac cc :: Sh 2 1 (Zb x.keys) ak ck :: L) w') := by
 refine (XU [] none 0 x ab ae ac ak cb ce cc ck (by decide) hw (Z.nilS 5 1)).mono fun v w' h => ?_
 obtain ⟨a2, c2, h1, h2⟩ := h
 exact ⟨a2, c2, h1, h2.sel 6 [0, 1, 1, 1, 1] rfl⟩
theorem tr_n (zs : List AnS) (a : Option Addr) (c : Nat) (hw : ∀ z ∈ zs, AnW z.x) (hl : zs.length ≤ 20) (Z : St g (Sh 35 15 (Z5 zs) a c :: ZP anF zs :: L) w) :
  Sp Tryz.prog 6 [.slice a (Z5 zs).length c] w (fun v w' => ∃ (a2 : Option Addr) (c2 : Nat), v = .slice a2 (List.length (Za (Zz (zs.map AnS.x)))) c2 ∧ St g (Ze 5 1 (Za (Zz (zs.map AnS.x))) a2 c2 :: Sh 35 15 (Z5 zs) a c :: ZP anF zs :: L) w') := by
 refine Sp.enter Tryz.func6 rfl (by kernel_rfl) (by kernel_rfl) ?_
 refine Ze7 <| WC.region <| Ze6 1 rfl <| Ze8 <| Ze7 <| WC.region ?_
 have hzl := Yg zs
 refine Ze6 1 rfl <| Ze8 <| Ze7 <| Ze7 <| WC.region <| Ze6 3 rfl <| Ze8 <| Zfj ?_
 replace Z := Z.nil_ 5 1
 refine Zft [2, 3, 6, 7, 8] (fun kM vs w => ∃ (k : Nat) (acc : List Int) (u : Option Addr) (d : Nat), vs = [.slice none 0 0, .slice u (Za acc).length d, .slice a (Z5 zs).length c, .int .i64 (List.length (Z5 zs) : Int), .int .i64 (k : Int)] ∧ St g (Ze 5 1 (Za acc) u d :: Sh 35 15 (Z5 zs) a c :: ZP anF zs :: L) w ∧ (k ≤ zs.length) ∧ (acc = Zz ((zs.map AnS.x).take k)) ∧ (acc.length ≤ 10000 * k) ∧ (zs.length - k) = kM) ((List.length zs) - 0) ⟨0, [], none, 0, rfl, Z, (Nat.zero_le _), (rfl), (Nat.zero_le _), rfl⟩ ?_
 clear Z; rintro _ _ w j ⟨k, acc, u, d, rfl, Z, hk, ha, hal, rfl⟩
 refine Ze7 <| WC.region <| Ze6 1 rfl <| Ze8 <| Ze7 <| Zfe rfl (fun cd1 => ?_) (fun cd1 => ?_)
 ·refine Zfc ?_
  as_aux_lemma =>
  refine Ze7 <| Zfj <| Ze7 <| WC.region ?_
  obtain ⟨z, hz⟩ : ∃ z, zs[k]? = some z := ⟨_, List.getElem?_eq_getElem (by omega)⟩; have hzw := hw z (List.mem_of_getElem? hz); have hze := Xu hzw; have hob := Zf acc; have hzm : (zs.map AnS.x)[k]? = some z.x := (by rw [List.getElem?_map, hz]; rfl)
  refine Zfw rfl rfl (i := (k : Int)) (k) el_22 rfl rfl (by omega) (by omega) (Z.rdS 1 rfl (Z6 hz)).1 ?_
  refine Zf9 rfl rfl [.int .i64 z.x.err, .int .u64 z.x.handle, .int .i64 z.x.value, .bool z.x.found, .int .i64 z.x.n, .int .i64 z.x.ekey, .int .i64 z.x.eval, .int .i64 z.x.count, .int .i64 z.x.sum, .int .i64 z.x.mn, .int .i64 z.x.mx, .slice z.ae (Zo z.x.ents).length z.ce, .slice z.ac (Zn z.x.chs).length z.cc, .slice z.ak (Zb z.x.keys).length z.ck, .slice z.ab (Za z.x.bytes).length z.cb] ZK rfl (Z.rdS 1 rfl (Z6 hz)).2 <| Zf5 rfl rfl Xk Z (fun b1 w Z => ?_)
  refine Zfu rfl rfl rfl 0 Z rfl rfl rfl rfl rfl ZK (fun w Z => ?_)
  replace Z := Z.n4 L (a0 := Zd b1 #[.int .i64 z.x.err, .int .u64 z.x.handle, .int .i64 z.x.value, .bool z.x.found, .int .i64 z.x.n, .int .i64 z.x.ekey, .int .i64 z.x.eval, .int .i64 z.x.count, .int .i64 z.x.sum, .int .i64 z.x.mn, .int .i64 z.x.mx, .slice z.ae (Zo z.x.ents).length z.ce, .slice z.ac (Zn z.x.chs).length z.cc, .slice z.ak (Zb z.x.keys).length z.ck, .slice z.ab (Za z.x.bytes).length z.cb] 35) rfl
  refine Ze8 <| WC.region ?_
  replace Z : St g (Sh 5 1 (Za z.x.bytes) z.ab z.cb :: Sh 27 2 (Zo z.x.ents) z.ae z.ce :: Sh 88 4 (Zn z.x.chs) z.ac z.cc :: Sh 2 1 (Zb z.x.keys) z.ak z.ck :: Zd b1 #[.int .i64 z.x.err, .int .u64 z.x.handle, .int .i64 z.x.value, .bool z.x.found, .int .i64 z.x.n, .int .i64 z.x.ekey, .int .i64 z.x.eval, .int .i64 z.x.count, .int .i64 z.x.sum, .int .i64 z.x.mn, .int .i64 z.x.mx, .slice z.ae (Zo z.x.ents).length z.ce, .slice z.ac (Zn z.x.chs).length z.cc, .slice z.ak (Zb z.x.keys).length z.ck, .slice z.ab (Za z.x.bytes).length z.cb] 35 :: Ze 5 1 (Za acc) u d :: Sh 35 15 (Z5 zs) a c :: ZP anF zs :: L) w := Z.shsGet 3 rfl (List.mem_of_getElem? hz)
  refine Ze6 1 rfl <| Zfy rfl rfl 4 Z rfl rfl ZK <| Zfb rfl rfl (appA0 z.x z.ab z.ae z.ac z.ak z.cb z.ce z.cc z.ck hzw Z) rfl ?_
  clear Z; rintro _ w ⟨a1, c1, rfl, Z⟩
  replace Z := Z.n9 L rfl
  refine Zfz rfl rfl 6 (Za (acc ++ (YJ z.x))) el_33 Z rfl (Z.srcO 0 rfl) (Z0 _ _).symm (Rm.of (by first | omega | (simp <;> omega)) (by decide)) rfl rfl (fun a2 c2 w Z => ?_)
  replace Z := Z.n9 L (a6 := Ze 5 1 (Za (acc ++ (YJ z.x))) a2 c2) rfl
  refine Ze6 1 rfl <| Ze8 <| WC.region <| Ze6 1 rfl <| Zfi 16 rfl (ZF (by omega)) ?_
  refine Ze6 1 rfl <| Ze8 ?_
  exact ⟨_, by omega, k + 1, acc ++ YJ z.x, _, _, rfl, (Z.sel 6 [] rfl), (by omega), (by rw [Xp hzm, ha]), (by rw [List.length_append]; omega), rfl⟩
 ·refine Zfv ?_
  as_aux_lemma =>
  refine Ze7 <| WC.region <| Ze6 2 rfl <| Ze8 <| Zfa ?_
  refine ⟨[.slice u (Za acc).length d], rfl, ?_⟩
  have e9 : acc = Zz (zs.map AnS.x) := (by rw [ha, Q_ (by rw [List.length_map]; omega)]); rw [e9] at Z ⊢; exact ⟨_, _, rfl, Z⟩
theorem Vu (xs : List AnM) (bs : List Int) (a : Option Addr) (c : Nat) (hl : bs.length ≤ 1000000) (hxl : xs.length ≤ 1000000) (hb : B8 bs) (hrd : ∀ (k : Nat) (x : AnM), xs[k]? = some x → ZH bs ((Zz (xs.take k)).length : Int) = (x, ((Zz (xs.take (k + 1))).length : Int), 0) ∧ (Zz (xs.take k)).length < bs.length) (hend : bs.length = (Zz xs).length) (Z : St g (Sh 5 1 (Za bs) a c :: L) w) :
  Sp Tryz.prog 7 [.slice a (Za bs).length c] w (fun v w' => ∃ (ms : List AnS) (a2 : Option Addr) (c2 : Nat), v = .tuple #[.slice a2 (Z5 ms).length c2, .int .i64 0] ∧ St g (Ze 35 15 (Z5 ms) a2 c2 :: ZP anF ms :: Sh 5 1 (Za bs) a c :: L) w' ∧ (ms.map AnS.x = xs)) := by
 refine Sp.enter Tryz.func7 rfl (by kernel_rfl) (by kernel_rfl) ?_
 refine Ze7 <| WC.region <| Ze6 2 rfl <| Ze8 <| Ze7 <| WC.region ?_
 replace Z : St g (ZP anF [] :: Sh 5 1 (Za bs) a c :: L) w := Z.shsNil anF
 refine Ze6 1 rfl <| Ze8 <| Ze7 <| Ze7 <| WC.region ?_
 have hbl := Zf bs
 refine Ze6 1 rfl <| Ze8 <| Zfj ?_
 replace Z := Z.nil_ 35 15
 refine Zft [0, 4, 5] (fun kM vs w => ∃ (k : Nat) (at_ : Int) (ms : List AnS) (acc : List (List Value)) (u : Option Addr) (d : Nat), vs = [.slice a (Za bs).length c, .slice u (List.length acc) d, .int .i64 at_] ∧ St g (Ze 35 15 acc u d :: ZP anF ms :: Sh 5 1 (Za bs) a c :: L) w ∧ (k ≤ xs.length) ∧ (at_ = ((Zz (xs.take k)).length : Int)) ∧ (acc = Z5 ms) ∧ (ms.map AnS.x = xs.take k) ∧ (xs.length - k) = kM) ((List.length xs) - 0) ⟨0, 0, [], [], none, 0, rfl, Z, (Nat.zero_le _), (rfl), (rfl), (rfl), rfl⟩ ?_
 clear Z; rintro _ _ w j ⟨k, at_, ms, acc, u, d, rfl, Z, hk, hat, hac, hms, rfl⟩
 refine Ze7 <| Ze7 <| WC.region ?_
 have hbl := Zf bs
 refine Ze6 4 rfl <| Ze8 ?_
 as_aux_lemma =>
 refine Zfe rfl (fun cd1 => ?_) (fun cd1 => ?_)
 ·refine Zfc <| Zfj <| Ze7 <| WC.region ?_
  have hkl : k < xs.length := Classical.byContradiction fun h => by have e9 := Q_ (l := xs) (k := k) (by omega); rw [e9] at hat; omega
  obtain ⟨x, hx⟩ : ∃ x, xs[k]? = some x := ⟨_, List.getElem?_eq_getElem hkl⟩; have hmk : ms.length = k := (by have := congrArg List.length hms; rw [List.length_map, List.length_take] at this; omega); have hml : acc.length = k := (by rw [hac, Yg]; exact hmk)
  refine Ze6 2 rfl <| Zfb rfl rfl (Xj _ _ _ at_ (by omega) hb (Z.sel 3 [2, 0, 0] rfl)) rfl ?_
  generalize hN1 : ZH bs at_ = N1
  clear Z; rintro _ w ⟨ab1, ae1, ac1, ak1, cb1, ce1, cc1, ck1, rfl, Z⟩
  replace Z := Z.n7 L (a1 := Ze 5 1 (Za N1.1.bytes) ab1 cb1) (a2 := Ze 27 2 (Zo N1.1.ents) ae1 ce1) (a3 := Ze 88 4 (Zn N1.1.chs) ac1 cc1) (a4 := Ze 2 1 (Zb N1.1.keys) ak1 ck1) rfl
  refine Ze6 4 rfl <| Zf5 rfl rfl Xk Z (fun b1 w Z => ?_)
  refine Zfu rfl rfl rfl 0 Z rfl rfl rfl rfl rfl ZK (fun w Z => ?_)
  replace Z := Z.n8 L (a0 := Zd b1 #[.int .i64 N1.1.err, .int .u64 N1.1.handle, .int .i64 N1.1.value, .bool N1.1.found, .int .i64 N1.1.n, .int .i64 N1.1.ekey, .int .i64 N1.1.eval, .int .i64 N1.1.count, .int .i64 N1.1.sum, .int .i64 N1.1.mn, .int .i64 N1.1.mx, .slice ae1 (Zo N1.1.ents).length ce1, .slice ac1 (Zn N1.1.chs).length cc1, .slice ak1 (Zb N1.1.keys).length ck1, .slice ab1 (Za N1.1.bytes).length cb1] 35) rfl
  refine Ze6 2 rfl <| Ze8 <| Ze7 <| Ze7 <| WC.region ?_
  have hN : N1 = (x, ((Zz (xs.take (k + 1))).length : Int), 0) := (by rw [← hN1, hat]; exact (hrd k x hx).1)
  refine Ze6 2 rfl <| Ze8 <| Zfl rfl (decide_eq_false ((by rw [hN]; exact fun h => h rfl))) ?_
  refine Zfc ?_
  as_aux_lemma =>
  refine Ze7 <| WC.region ?_
  replace Z := (Z.at_ 5 rfl).share
  replace Z := Z.n8 L (a0 := Sh 2 1 (Zb N1.1.keys) ak1 ck1) rfl
  replace Z := (Z.at_ 5 rfl).share
  replace Z := Z.n8 L (a0 := Sh 88 4 (Zn N1.1.chs) ac1 cc1) rfl
  replace Z := (Z.at_ 5 rfl).share
  replace Z := Z.n8 L (a0 := Sh 27 2 (Zo N1.1.ents) ae1 ce1) rfl
  replace Z := (Z.at_ 5 rfl).share
  replace Z := Z.n8 L (a0 := Sh 5 1 (Za N1.1.bytes) ab1 cb1) rfl
  replace Z : St g (ZP anF (ms ++ [AnS.mk N1.1 ab1 ae1 ac1 ak1 cb1 ce1 cc1 ck1]) :: Sh 5 1 (Za N1.1.bytes) ab1 cb1 :: Sh 27 2 (Zo N1.1.ents) ae1 ce1 :: Sh 88 4 (Zn N1.1.chs) ac1 cc1 :: Sh 2 1 (Zb N1.1.keys) ak1 ck1 :: Zd b1 #[.int .i64 N1.1.err, .int .u64 N1.1.handle, .int .i64 N1.1.value, .bool N1.1.found, .int .i64 N1.1.n, .int .i64 N1.1.ekey, .int .i64 N1.1.eval, .int .i64 N1.1.count, .int .i64 N1.1.sum, .int .i64 N1.1.mn, .int .i64 N1.1.mx, .slice ae1 (Zo N1.1.ents).length ce1, .slice ac1 (Zn N1.1.chs).length cc1, .slice ak1 (Zb N1.1.keys).length ck1, .slice ab1 (Za N1.1.bytes).length cb1] 35 :: Sh 5 1 (Za bs) a c :: Ze 35 15 acc u d :: ZP anF ms :: L) w := St.shsSub (zs' := ms ++ [AnS.mk N1.1 ab1 ae1 ac1 ak1 cb1 ce1 cc1 ck1]) (St.shsCons (Z.shsDup 7 rfl) (z := AnS.mk N1.1 ab1 ae1 ac1 ak1 cb1 ce1 cc1 ck1) (Ho _) [0, 0, 0, 0] rfl) (fun y hy => H5 y hy)
  refine Ze6 1 rfl <| Zfy rfl rfl 5 Z rfl rfl ZK <| Zf3 rfl rfl ([[.int .i64 N1.1.err, .int .u64 N1.1.handle, .int .i64 N1.1.value, .bool N1.1.found, .int .i64 N1.1.n, .int .i64 N1.1.ekey, .int .i64 N1.1.eval, .int .i64 N1.1.count, .int .i64 N1.1.sum, .int .i64 N1.1.mn, .int .i64 N1.1.mx, .slice ae1 (Zo N1.1.ents).length ce1, .slice ac1 (Zn N1.1.chs).length cc1, .slice ak1 (Zb N1.1.keys).length ck1, .slice ab1 (Za N1.1.bytes).length cb1]]) el_22 Z (by exact ⟨rfl, rfl⟩) (by simp [OkE, Value.oneCell']) rfl (Nat.le_of_ble_eq_true rfl) (fun b2 w Z => ?_)
  refine Zfz rfl rfl 8 (acc ++ [[.int .i64 N1.1.err, .int .u64 N1.1.handle, .int .i64 N1.1.value, .bool N1.1.found, .int .i64 N1.1.n, .int .i64 N1.1.ekey, .int .i64 N1.1.eval, .int .i64 N1.1.count, .int .i64 N1.1.sum, .int .i64 N1.1.mn, .int .i64 N1.1.mx, .slice ae1 (Zo N1.1.ents).length ce1, .slice ac1 (Zn N1.1.chs).length cc1, .slice ak1 (Zb N1.1.keys).length ck1, .slice ab1 (Za N1.1.bytes).length cb1]]) el_22 Z rfl (Z.srcO 0 rfl) rfl (Rm.of (by first | omega | (simp <;> omega)) (by decide)) rfl rfl (fun a1 c1 w Z => ?_)
  replace Z := Z.n10 L (a0 := Ze 35 15 [[.int .i64 N1.1.err, .int .u64 N1.1.handle, .int .i64 N1.1.value, .bool N1.1.found, .int .i64 N1.1.n, .int .i64 N1.1.ekey, .int .i64 N1.1.eval, .int .i64 N1.1.count, .int .i64 N1.1.sum, .int .i64 N1.1.mn, .int .i64 N1.1.mx, .slice ae1 (Zo N1.1.ents).length ce1, .slice ac1 (Zn N1.1.chs).length cc1, .slice ak1 (Zb N1.1.keys).length ck1, .slice ab1 (Za N1.1.bytes).length cb1]] (some ⟨b2, 0, none⟩) 1) (a1 := ZP anF (ms ++ [AnS.mk N1.1 ab1 ae1 ac1 ak1 cb1 ce1 cc1 ck1])) (a8 := Ze 35 15 (acc ++ [[.int .i64 N1.1.err, .int .u64 N1.1.handle, .int .i64 N1.1.value, .bool N1.1.found, .int .i64 N1.1.n, .int .i64 N1.1.ekey, .int .i64 N1.1.eval, .int .i64 N1.1.count, .int .i64 N1.1.sum, .int .i64 N1.1.mn, .int .i64 N1.1.mx, .slice ae1 (Zo N1.1.ents).length ce1, .slice ac1 (Zn N1.1.chs).length cc1, .slice ak1 (Zb N1.1.keys).length ck1, .slice ab1 (Za N1.1.bytes).length cb1]]) a1 c1) rfl
  refine Ze6 1 rfl <| Ze8 <| WC.region <| Ze6 2 rfl <| Ze8 ?_
  exact ⟨_, by omega, k + 1, N1.2.1, ms ++ [AnS.mk N1.1 ab1 ae1 ac1 ak1 cb1 ce1 cc1 ck1], acc ++ [anC (AnS.mk N1.1 ab1 ae1 ac1 ak1 cb1 ce1 cc1 ck1)], _, _, rfl, (Z.sel 10 [8, 1, 6] rfl), (by omega), (by rw [hN]), (by rw [hac, US]), (by rw [List.map_append, hms, List.take_add_one, hx, hN]; rfl), rfl⟩
 ·refine Zfv <| Ze7 <| WC.region ?_
  have hkl : k = xs.length := Classical.byContradiction fun h => by obtain ⟨x, hx⟩ : ∃ x, xs[k]? = some x := ⟨_, List.getElem?_eq_getElem (by omega)⟩; have := (hrd k x hx).2; omega
  refine Ze6 3 rfl <| Ze8 <| Zfa ?_
  rw [hac] at Z
  replace Z := Z.n3 L (a0 := Ze 35 15 (Z5 ms) u d) rfl
  refine ⟨[.slice u (List.length acc) d, .int .i64 0], ⟨rfl, rfl⟩, ?_⟩
  exact ⟨ms, u, d, by rw [hac]; rfl, Z, by rw [hms, hkl, List.take_length]⟩
end Go.Proofs.YtlifpobidhfbfaaGreatDoor
namespace Go.Proofs.YtlifpobidhfbfaaGreatDoor
open Go Go.V Go.RowKit Go.Maps
def QV (h : Int) : AnM := { VA with handle := h }
def Qr (h : Int) : AnS := ⟨QV h, none, none, none, none, 0, 0, 0, 0⟩
theorem HA {h : Int} (hh : 0 ≤ h ∧ h ≤ 18446744073709551615) : AnW (QV h) := by
 constructor <;> first | exact hh | exact Nat.zero_le _ | (intro _ h; cases h) | (show Z8 0; unfold Z8; omega)
theorem Zam {h : Int} (hh : 0 ≤ h ∧ h ≤ 18446744073709551615) : AnOk (QV h) := by
 refine ⟨?_, HA hh, by show (0 : Int) ≤ 0 ∧ (0 : Int) ≤ 255; omega, rfl⟩
 constructor <;> first | exact hh | exact Nat.zero_le _ | (intro _ h; cases h) | (show Z8 0; unfold Z8; omega)
theorem C_ {n : Nat} (hn : 1 ≤ n) : (VM.new n).T.newH = 4294967297 := by
 obtain ⟨m, rfl⟩ : ∃ m, n = m + 1 := ⟨n - 1, by omega⟩
 rfl
theorem Zd1 {l : List AnS} {x : AnM} (h : l.map AnS.x = [x]) : ∃ z, l = [z] ∧ z.x = x := by
 cases l with
 | nil => cases h
 | cons z l =>
  cases l with
  | nil => exact ⟨z, rfl, by simpa using h⟩
  | cons y l => simp at h
variable {g w : World} {L : List HP}
theorem run_1 (sl cv cc cx : Int) (a : Option Addr) (c : Nat) (hc : UJ sl cv cc cx) (Z : St g (Sh 5 1 (Za [1]) a c :: L) w) :
  Sp Tryz.prog 12 [.agg #[.int .i64 sl, .int .i64 cv, .int .i64 cc, .int .i64 cx], .slice a (Za [1]).length c] w (fun v w' => ∃ (a2 : Option Addr) (c2 : Nat), v = .tuple #[.slice a2 (Za (Zz [QV 4294967297])).length c2, .int .i64 1, .int .i64 0] ∧ St g (Ze 5 1 (Za (Zz [QV 4294967297])) a2 c2 :: L) w') := by
 refine Sp.enter Tryz.func12 rfl (by kernel_rfl) (by kernel_rfl) ?_
 refine Ze7 <| WC.region <| Zf0 rfl rfl #[.int .i64 sl, .int .i64 cv, .int .i64 cc, .int .i64 cx] Z rfl rfl (fun b1 w Z => ?_)
 refine Ze6 3 rfl <| Ze8 <| Ze7 <| WC.region ?_
 obtain ⟨h1, h2, h3, h4⟩ := id hc
 refine Zfy rfl rfl 0 Z rfl rfl ag_47 <| Zfb rfl rfl (D3 sl cv cc cx hc Z) rfl ?_
 clear Z; rintro _ w ⟨p1, s1, a1, rfl, Z⟩
 replace Z := Z.n4 L rfl
 refine Ze6 5 rfl <| Ze8 <| Ze7 <| Ze7 <| WC.region <| Ze6 2 rfl <| Ze8 <| Zfl rfl (decide_eq_false ((by decide))) ?_
 refine Zfc <| Ze7 <| WC.region ?_
 replace Z := Z.n4 L (a3 := Sh 5 1 (Za (ones 1)) a c) rfl
 refine Zfm 1 (.slice a (Za (ones 1)).length c) rfl <| Ze6 1 rfl <| Zfb rfl rfl (dec_n _ _ 1 (by decide) (Z.sel 4 [3, 0, 0, 0] rfl)) rfl ?_
 clear Z; rintro _ w ⟨a2, c1, rfl, Z⟩
 replace Z := Z.n5 L rfl
 refine Ze6 7 rfl <| Ze8 ?_
 as_aux_lemma =>
 refine Ze7 <| WC.region <| Ze6 1 rfl <| Ze8 <| Ze7 <| Ze7 <| WC.region <| Ze6 3 rfl <| Ze8 <| Zfj ?_
 replace Z := Z.nil_ 35 15
 refine Zft [4, 5, 6, 7, 8, 11, 28, 29, 30] (fun kM vs w => ∃ (k : Nat) (V : VM) (zs : List AnS) (acc : List (List Value)) (u : Option Addr) (d : Nat), vs = [.slice none 0 0, .int .i64 0, .int .i64 0, .pointer (some ⟨p1, 0, none⟩), .int .i64 (if 1 ≤ 65536 then 0 else 2), .slice u (List.length acc) d, .slice a2 (Je (min 1 65536)).length c1, .int .i64 (List.length (Je (min 1 65536)) : Int), .int .i64 (k : Int)] ∧ St g (Ze 35 15 acc u d :: Ze 66 13 (Je (min 1 65536)) a2 c1 :: Sh 5 1 (Za (ones 1)) a c :: U0 p1 s1 a1 V :: XT a1 (AM.new sl.toNat) :: Zd b1 #[.int .i64 sl, .int .i64 cv, .int .i64 cc, .int .i64 cx] 47 :: L) w ∧ ((k = 0 ∧ V = VM.new cv.toNat ∧ zs = []) ∨ (k = 1 ∧ zs = [Qr 4294967297])) ∧ (acc = Z5 zs) ∧ (1 - k) = kM) (1 - 0) ⟨0, VM.new cv.toNat, [], [], none, 0, rfl, Z, (.inl ⟨rfl, rfl, rfl⟩), (rfl), rfl⟩ ?_
 clear Z; rintro _ _ w j ⟨k, V, zs, acc, u, d, rfl, Z, hk, hac, rfl⟩
 refine Ze7 <| WC.region <| Ze6 1 rfl <| Ze8 <| Ze7 <| Zfe rfl (fun cd1 => ?_) (fun cd1 => ?_)
 ·refine Zfc <| Ze7 <| Zfj <| Ze7 <| WC.region ?_
  have hlc := Qa (min 1 65536); have hV0 := VI.new (slots := sl.toNat) (cap := cv.toNat) (by omega) (by omega); have hr0 := Cx (n := cv.toNat); have hn0 := C_ (n := cv.toNat) (by omega); have hk1 : k < 1 := (by omega); obtain ⟨hk0, hV, hz⟩ := hk.resolve_right (fun h => by omega)
  refine Zfw rfl rfl (i := (k : Int)) (k) el_62 rfl rfl (by omega) (by omega) (Z.rdO 1 rfl (HI (n := min 1 65536) (k := k) (by omega))).1 ?_
  refine Zf9 rfl rfl [.int .i64 1, .int .u64 0, .int .u64 0, .int .i64 0, .int .i64 0, .int .i64 0, .int .i64 0, .int .i64 0, .bool false, .string ⟨#[]⟩, .slice none 0 0, .slice none 0 0, .slice none 0 0] Zk rfl (Z.rdO 1 rfl (HI (n := min 1 65536) (k := k) (by omega))).2 ?_
  refine Zf5 rfl rfl JK Z (fun b2 w Z => ?_)
  refine Zfu rfl rfl rfl 0 Z rfl rfl rfl rfl rfl Zk (fun w Z => ?_)
  replace Z := Z.n7 L (a0 := Zd b2 #[.int .i64 1, .int .u64 0, .int .u64 0, .int .i64 0, .int .i64 0, .int .i64 0, .int .i64 0, .int .i64 0, .bool false, .string ⟨#[]⟩, .slice none 0 0, .slice none 0 0, .slice none 0 0] 66) rfl
  refine Ze8 ?_
  as_aux_lemma =>
  refine WC.region ?_
  subst hV
  rw [hz] at hac; subst hac
  refine Ze6 2 rfl <| Zfy rfl rfl 0 Z rfl rfl Zk <| Zfb rfl rfl (do_1 _ _ _ (VM.new cv.toNat) (AM.new sl.toNat) [] hV0 (by rw [hr0]; omega) (by show (0 : Int) < 1000000000; decide) (by decide) (Z.sel 6 [4, 4, 0, 0, 0, 0] rfl)) rfl ?_
  clear Z; rintro _ w ⟨V1, rfl, Z, f1, f2⟩
  replace Z := Z.n7 L rfl
  refine Zf3 rfl rfl ([[.int .i64 0, .int .u64 (VM.new cv.toNat).T.newH, .int .i64 0, .bool false, .int .i64 0, .int .i64 0, .int .i64 0, .int .i64 0, .int .i64 0, .int .i64 0, .int .i64 0, .slice none 0 0, .slice none 0 0, .slice none 0 0, .slice none 0 0]]) el_22 Z (by exact ⟨rfl, rfl⟩) (by simp [OkE, Value.oneCell']) rfl (Nat.le_of_ble_eq_true rfl) (fun b3 w Z => ?_)
  refine Zfz rfl rfl 4 ((Z5 []) ++ [[.int .i64 0, .int .u64 (VM.new cv.toNat).T.newH, .int .i64 0, .bool false, .int .i64 0, .int .i64 0, .int .i64 0, .int .i64 0, .int .i64 0, .int .i64 0, .int .i64 0, .slice none 0 0, .slice none 0 0, .slice none 0 0, .slice none 0 0]]) el_22 Z rfl (Z.srcO 0 rfl) rfl (Rm.of (by first | omega | (simp <;> omega)) (by decide)) rfl rfl (fun a3 c2 w Z => ?_)
  replace Z := Z.n8 L (a0 := Ze 35 15 [[.int .i64 0, .int .u64 (VM.new cv.toNat).T.newH, .int .i64 0, .bool false, .int .i64 0, .int .i64 0, .int .i64 0, .int .i64 0, .int .i64 0, .int .i64 0, .int .i64 0, .slice none 0 0, .slice none 0 0, .slice none 0 0, .slice none 0 0]] (some ⟨b3, 0, none⟩) 1) (a4 := Ze 35 15 ((Z5 []) ++ [[.int .i64 0, .int .u64 (VM.new cv.toNat).T.newH, .int .i64 0, .bool false, .int .i64 0, .int .i64 0, .int .i64 0, .int .i64 0, .int .i64 0, .int .i64 0, .int .i64 0, .slice none 0 0, .slice none 0 0, .slice none 0 0, .slice none 0 0]]) a3 c2) rfl
  refine Ze6 1 rfl <| Ze8 <| WC.region <| Ze6 1 rfl <| Zfi 40 rfl (ZF (by omega)) ?_
  refine Ze6 1 rfl <| Ze8 ?_
  rw [hn0] at Z
  exact ⟨_, by omega, k + 1, V1, [Qr 4294967297], Z5 [] ++ [anC (Qr 4294967297)], a3, c2, rfl, (Z.sel 7 [4, 4, 4, 1, 1] rfl), (.inr ⟨by omega, rfl⟩), (rfl), rfl⟩
 ·refine Zfv <| Ze7 <| WC.region ?_
  have hlc := Qa (min 1 65536)
  replace Z : St g (ZP anF [Qr 4294967297] :: Ze 35 15 acc u d :: Ze 66 13 (Je (min 1 65536)) a2 c1 :: Sh 5 1 (Za (ones 1)) a c :: U0 p1 s1 a1 V :: XT a1 (AM.new sl.toNat) :: Zd b1 #[.int .i64 sl, .int .i64 cv, .int .i64 cc, .int .i64 cx] 47 :: L) w := St.sel 5 [0] (St.shsCons (z := Qr 4294967297) (((((Z.nilS 2 1).nilS 88 4).nilS 27 2).nilS 5 1).shsNil anF) (Ho _) [0, 0, 0, 0] rfl) rfl
  obtain ⟨_, rfl⟩ := hk.resolve_left (fun h => by omega)
  subst hac
  refine Ze6 1 rfl ?_
  replace Z := (Z.at_ 1 rfl).share
  replace Z := Z.n7 L (a0 := Sh 35 15 (Z5 [Qr 4294967297]) u d) (a1 := ZP anF [Qr 4294967297]) rfl
  refine Zfb rfl rfl (tr_n [Qr 4294967297] _ _ (fun z hz => by rw [List.mem_singleton.1 hz]; exact HA (by omega)) (by decide) Z) rfl ?_
  clear Z; rintro _ w ⟨a3, c2, rfl, Z⟩
  replace Z := Z.n8 L rfl
  refine Ze6 6 rfl <| Ze8 ?_
  as_aux_lemma =>
  refine Zfa ?_
  refine ⟨[.slice a3 (List.length (Za (Zz (([Qr 4294967297]).map AnS.x)))) c2, .int .i64 (List.length (Z5 [Qr 4294967297]) : Int), .int .i64 (if 1 ≤ 65536 then 0 else 2)], ⟨rfl, rfl, rfl⟩, ?_⟩
  replace Z := (Z.sel 8 [0] rfl)
  exact ⟨_, _, rfl, Z⟩
theorem QP (Z : St g (L) w) :
  Sp Tryz.prog 4 [] w (fun v w' => v = .bool true ∧ St g (L) w') := by
 refine Sp.enter Tryz.func4 rfl (by kernel_rfl) (by kernel_rfl) ?_
 refine Ze7 <| WC.region <| Ze6 1 rfl <| Ze8 <| Ze7 <| WC.region <| Zf7 rfl rfl (cs := [.int .i64 9, .int .i64 9, .int .i64 1, .int .i64 1]) zv_47 rfl rfl <| Zf3 rfl rfl (Za [1]) el_33 Z (by exact ⟨rfl, rfl⟩) (Yj _) rfl (Nat.le_of_ble_eq_true rfl) (fun b1 w Z => ?_)
 replace Z := (Z.at_ 0 rfl).share
 replace Z : St g (Sh 5 1 (Za [1]) (some ⟨b1, 0, none⟩) (Za [1]).length :: L) w := Z
 refine Zfb rfl rfl (run_1 9 9 1 1 (some ⟨b1, 0, none⟩) (Za [1]).length (by unfold UJ; omega) Z) rfl ?_
 clear Z; rintro _ w ⟨a1, c1, rfl, Z⟩
 replace Z := Z.n1 L rfl
 refine Ze6 7 rfl <| Ze8 <| Ze7 <| WC.region <| Ze6 1 rfl ?_
 replace Z := (Z.at_ 0 rfl).share
 replace Z : St g (Sh 5 1 (Za (Zz [QV 4294967297])) a1 c1 :: L) w := Z
 refine Zfb rfl rfl (Vu [QV 4294967297] (Zz [QV 4294967297]) _ _ (by have := Dn (l := [QV 4294967297]) (fun x hx => by rw [List.mem_singleton.1 hx]; exact HA (by omega)); simp only [List.length_singleton] at this; omega) (by decide) (C9 (fun x hx => by rw [List.mem_singleton.1 hx]; exact fun _ h => by cases h)) (HL (fun x hx => by rw [List.mem_singleton.1 hx]; exact Zam (by omega))) rfl Z) rfl ?_
 clear Z; rintro _ w ⟨ms1, a2, c2, rfl, Z, f1⟩
 replace Z := Z.n3 L rfl
 refine Ze6 5 rfl <| Ze8 ?_
 as_aux_lemma =>
 refine Ze7 <| WC.region ?_
 obtain ⟨z, rfl, hzx⟩ := Zd1 f1
 refine Ze6 3 rfl <| Zfm 20 (.bool true) (congrArg Value.bool (decide_eq_true (by decide))) ?_
 refine Zfh rfl rfl rfl <| Ze6 1 rfl <| Zfh rfl rfl rfl <| Ze6 3 rfl <| Zfm 24 (.bool true) (congrArg Value.bool (decide_eq_true (by decide))) ?_
 refine Zfh rfl rfl rfl <| Ze6 1 rfl <| Zfh rfl rfl rfl <| Ze6 3 rfl <| Zfm 28 (.bool true) (congrArg Value.bool (decide_eq_true (by decide))) ?_
 refine Zfh rfl rfl rfl <| Ze6 1 rfl <| Zfh rfl rfl rfl <| Ze6 1 rfl <| Zfh rfl rfl rfl <| Ze6 3 rfl <| Zfm 33 (.bool true) (congrArg Value.bool (decide_eq_true (rfl))) <| Zfh rfl rfl rfl <| Ze6 1 rfl <| Zfh rfl rfl rfl <| Zfw rfl rfl (i := 0) (0) el_22 rfl rfl (by omega) (Nat.succ_pos _) (Z.rdO 0 rfl (Z6 (l := [z]) (k := 0) (z := z) rfl)).1 ?_
 refine Zfh rfl rfl rfl <| Ze6 1 rfl <| Zfh rfl rfl rfl <| Zfd 1 [.int .u64 z.x.handle] rfl (by exact (Z.rdO 0 rfl (Z6 (l := [z]) (k := 0) (z := z) rfl)).2 1 _ rfl) ?_
 refine Zfh rfl rfl rfl <| Ze6 3 rfl <| Ze8 ?_
 as_aux_lemma =>
 refine Zfa ?_
 refine ⟨[.bool (decide (z.x.handle = 4294967297))], rfl, ?_⟩
 replace Z := (Z.sel 3 [] rfl)
 exact ⟨congrArg Value.bool (decide_eq_true (by rw [hzx]; rfl)), Z⟩
end Go.Proofs.YtlifpobidhfbfaaGreatDoor
namespace Go.Proofs.YtlifpobidhfbfaaGreatDoor
open Go Go.V
variable {g w : World} {L : List HP}
theorem HJ (k n : Int) (_hk : -9223372036854775808 ≤ k ∧ k ≤ 9223372036854775807) (hn : 0 < n ∧ n ≤ 9223372036854775807) (Z : St g (L) w) :
  Sp Tryz.prog 5 [.int .i64 k, .int .i64 n] w (fun v w' => v = .int .i64 (k % n) ∧ St g (L) w') := by
 refine Sp.enter Tryz.func5 rfl (by kernel_rfl) (by kernel_rfl) ?_
 refine Ze7 <| WC.region <| Ze6 1 rfl <| Ze8 <| Ze7 <| WC.region ?_
 obtain ⟨m, rfl⟩ : ∃ m : Nat, n = Int.ofNat (m + 1) := ⟨n.toNat - 1, by simp; omega⟩; have htm := tm_lt (k := k) (n := Int.ofNat (m + 1)) hn.1
 refine Ze6 3 rfl <| Ze6 1 rfl <| Ze8 <| Ze7 <| Ze7 <| WC.region <| Ze6 2 rfl <| Ze8 <| Zfe rfl (fun cd1 => ?_) (fun cd1 => ?_)
 ·refine WC.region <| Ze6 3 rfl <| Zfi 13 rfl (ZF (by omega)) ?_
  refine Ze6 1 rfl <| Ze8 <| Ze7 <| WC.region <| Ze6 2 rfl <| Ze8 ?_
  as_aux_lemma =>
  refine Zfa ?_
  refine ⟨[.int .i64 ((Int.tmod k (Int.ofNat (m + 1))) + (Int.ofNat (m + 1)))], rfl, ?_⟩
  rw [Zd7 hn.1 cd1]; exact ⟨rfl, Z⟩
 ·refine Zfc <| Ze7 <| WC.region <| Ze6 2 rfl <| Ze8 <| Zfa ?_
  refine ⟨[.int .i64 (Int.tmod k (Int.ofNat (m + 1)))], rfl, ?_⟩
  rw [Zds hn.1 cd1]; exact ⟨rfl, Z⟩
end Go.Proofs.YtlifpobidhfbfaaGreatDoor
