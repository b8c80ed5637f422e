/-
  Plain model of operations: their fields, their encodings, how they are read.
  Conditions: none.
-/
import Derived.Test.YtofnoopjlmdelaaRdm
import Derived.Test.YtofnoopjlmdelaaExt
namespace Go.V
open Go

structure OpM where
  code : Int
  a : Int
  b : Int
  key : Int
  val : Int
  lo : Int
  hi : Int
  n : Int
  flag : Bool
  name : ByteArray
  bytes : List Int
  ents : List (Int × Int)
  chs : List (Int × Int × Int × Int)
/-- the letters of the fields of each code -/
def tbl : List (List Int) := [[], [], [65, 75], [65, 75, 86], [65, 75], [65, 75, 86], [65, 67], [69], [65], [65], [65, 66, 78], [65, 66, 78, 86], [65, 76, 72, 78], [65, 66], [65, 66], [65, 75, 78], [65, 75], [65, 78], [65, 76, 72], [65, 76, 72, 78], [65, 76, 72, 78, 70, 89], [65, 76, 72], [65, 75, 78], [65], [65, 66, 83], [83], [65], [65, 75], [65, 76, 72], [65, 75, 86], [65, 75], [65, 66], [65], [65, 66], [66, 89], []]
def fs (c : Int) : List Int := tbl.getD c.toNat []
def isOp (c : Int) : Bool := decide (1 ≤ c ∧ c ≤ 35)
theorem fs_none {c : Int} (h : ¬ (1 ≤ c ∧ c ≤ 35)) : fs c = [] := by
  unfold fs
  rcases Int.lt_or_le c 1 with h1 | h1
  · have : c.toNat = 0 := by omega
    rw [this]; rfl
  · rw [List.getD_eq_getElem?_getD, List.getElem?_eq_none (by show 36 ≤ c.toNat; omega)]; rfl
theorem fs_all {q : List Int → Prop} (h : ∀ l ∈ tbl, q l) (c : Int) : q (fs c) := by
  unfold fs
  rw [List.getD_eq_getElem?_getD]
  cases hx : tbl[c.toNat]? with
  | none => exact h [] (by decide)
  | some l => exact h l (List.mem_of_getElem? hx)
theorem fs_as (c : Int) : As7 (fs c) := fs_all (by unfold As7; decide) c
theorem fs_as32 (c : Int) : As7 ((fs c).map (· + 32)) := fs_all (q := fun l => As7 (l.map (· + 32))) (by unfold As7; decide) c
theorem fs_len (c : Int) : (fs c).length ≤ 6 := fs_all (q := fun l => l.length ≤ 6) (by decide) c
/-- the letters are these twelve -/
def Ltr (f : Int) : Prop := f = 65 ∨ f = 66 ∨ f = 75 ∨ f = 86 ∨ f = 76 ∨ f = 72 ∨ f = 78 ∨ f = 70 ∨ f = 83 ∨ f = 89 ∨ f = 69 ∨ f = 67
theorem fs_ltr (c : Int) : ∀ f ∈ fs c, Ltr f := fs_all (q := fun l => ∀ f ∈ l, Ltr f) (by unfold Ltr; decide) c
theorem opc_cases {c : Int} (h : 1 ≤ c ∧ c ≤ 35) : c = 1 ∨ c = 2 ∨ c = 3 ∨ c = 4 ∨ c = 5 ∨ c = 6 ∨ c = 7 ∨ c = 8 ∨ c = 9 ∨ c = 10 ∨ c = 11 ∨ c = 12 ∨ c = 13 ∨ c = 14 ∨ c = 15 ∨ c = 16 ∨ c = 17 ∨ c = 18 ∨ c = 19 ∨ c = 20 ∨ c = 21 ∨ c = 22 ∨ c = 23 ∨ c = 24 ∨ c = 25 ∨ c = 26 ∨ c = 27 ∨ c = 28 ∨ c = 29 ∨ c = 30 ∨ c = 31 ∨ c = 32 ∨ c = 33 ∨ c = 34 ∨ c = 35 := by omega

/-- reads one field -/
def rField (bs : List Int) (f : Int) (x : OpM) (p : Nat) (e : Int) : OpM × Nat × Int :=
  if f = 65 then ({ x with a := (rU bs p e).1 }, (rU bs p e).2)
  else if f = 66 then ({ x with b := (rU bs p e).1 }, (rU bs p e).2)
  else if f = 75 then ({ x with key := (rZ bs p e).1 }, (rZ bs p e).2)
  else if f = 86 then ({ x with val := (rZ bs p e).1 }, (rZ bs p e).2)
  else if f = 76 then ({ x with lo := (rZ bs p e).1 }, (rZ bs p e).2)
  else if f = 72 then ({ x with hi := (rZ bs p e).1 }, (rZ bs p e).2)
  else if f = 78 then ({ x with n := (rLim bs 2147483647 p e).1 }, (rLim bs 2147483647 p e).2)
  else if f = 70 then ({ x with flag := (rBool bs p e).1 }, (rBool bs p e).2)
  else if f = 83 then ({ x with name := mkS (rBytes bs (rLim bs 32 p e).1.toNat (rLim bs 32 p e).2.1 (rLim bs 32 p e).2.2).1 }, (rBytes bs (rLim bs 32 p e).1.toNat (rLim bs 32 p e).2.1 (rLim bs 32 p e).2.2).2)
  else if f = 89 then ({ x with bytes := (rBytes bs (rLim bs 65536 p e).1.toNat (rLim bs 65536 p e).2.1 (rLim bs 65536 p e).2.2).1 }, (rBytes bs (rLim bs 65536 p e).1.toNat (rLim bs 65536 p e).2.1 (rLim bs 65536 p e).2.2).2)
  else if f = 69 then ({ x with ents := (rEnts bs (rEl bs 1000 p e).1.toNat (rEl bs 1000 p e).2.1 (rEl bs 1000 p e).2.2).1 }, (rEnts bs (rEl bs 1000 p e).1.toNat (rEl bs 1000 p e).2.1 (rEl bs 1000 p e).2.2).2)
  else if f = 67 then ({ x with chs := (rChs bs (rEl bs 1000 p e).1.toNat (rEl bs 1000 p e).2.1 (rEl bs 1000 p e).2.2).1 }, (rChs bs (rEl bs 1000 p e).1.toNat (rEl bs 1000 p e).2.1 (rEl bs 1000 p e).2.2).2)
  else (x, p, e)
theorem rField_A {bs : List Int} {x : OpM} {p : Nat} {e : Int} : rField bs 65 x p e = ({ x with a := (rU bs p e).1 }, (rU bs p e).2) := rfl
theorem rField_B {bs : List Int} {x : OpM} {p : Nat} {e : Int} : rField bs 66 x p e = ({ x with b := (rU bs p e).1 }, (rU bs p e).2) := rfl
theorem rField_K {bs : List Int} {x : OpM} {p : Nat} {e : Int} : rField bs 75 x p e = ({ x with key := (rZ bs p e).1 }, (rZ bs p e).2) := rfl
theorem rField_V {bs : List Int} {x : OpM} {p : Nat} {e : Int} : rField bs 86 x p e = ({ x with val := (rZ bs p e).1 }, (rZ bs p e).2) := rfl
theorem rField_L {bs : List Int} {x : OpM} {p : Nat} {e : Int} : rField bs 76 x p e = ({ x with lo := (rZ bs p e).1 }, (rZ bs p e).2) := rfl
theorem rField_H {bs : List Int} {x : OpM} {p : Nat} {e : Int} : rField bs 72 x p e = ({ x with hi := (rZ bs p e).1 }, (rZ bs p e).2) := rfl
theorem rField_N {bs : List Int} {x : OpM} {p : Nat} {e : Int} : rField bs 78 x p e = ({ x with n := (rLim bs 2147483647 p e).1 }, (rLim bs 2147483647 p e).2) := rfl
theorem rField_F {bs : List Int} {x : OpM} {p : Nat} {e : Int} : rField bs 70 x p e = ({ x with flag := (rBool bs p e).1 }, (rBool bs p e).2) := rfl
theorem rField_S {bs : List Int} {x : OpM} {p : Nat} {e : Int} : rField bs 83 x p e = ({ x with name := mkS (rBytes bs (rLim bs 32 p e).1.toNat (rLim bs 32 p e).2.1 (rLim bs 32 p e).2.2).1 }, (rBytes bs (rLim bs 32 p e).1.toNat (rLim bs 32 p e).2.1 (rLim bs 32 p e).2.2).2) := rfl
theorem rField_Y {bs : List Int} {x : OpM} {p : Nat} {e : Int} : rField bs 89 x p e = ({ x with bytes := (rBytes bs (rLim bs 65536 p e).1.toNat (rLim bs 65536 p e).2.1 (rLim bs 65536 p e).2.2).1 }, (rBytes bs (rLim bs 65536 p e).1.toNat (rLim bs 65536 p e).2.1 (rLim bs 65536 p e).2.2).2) := rfl
theorem rField_E {bs : List Int} {x : OpM} {p : Nat} {e : Int} : rField bs 69 x p e = ({ x with ents := (rEnts bs (rEl bs 1000 p e).1.toNat (rEl bs 1000 p e).2.1 (rEl bs 1000 p e).2.2).1 }, (rEnts bs (rEl bs 1000 p e).1.toNat (rEl bs 1000 p e).2.1 (rEl bs 1000 p e).2.2).2) := rfl
theorem rField_C {bs : List Int} {x : OpM} {p : Nat} {e : Int} : rField bs 67 x p e = ({ x with chs := (rChs bs (rEl bs 1000 p e).1.toNat (rEl bs 1000 p e).2.1 (rEl bs 1000 p e).2.2).1 }, (rChs bs (rEl bs 1000 p e).1.toNat (rEl bs 1000 p e).2.1 (rEl bs 1000 p e).2.2).2) := rfl
theorem rField_no {bs : List Int} {f : Int} {x : OpM} {p : Nat} {e : Int} (h : ¬ Ltr f) : rField bs f x p e = (x, p, e) := by
  unfold Ltr at h
  unfold rField
  rw [if_neg (by omega)]
  rw [if_neg (by omega)]
  rw [if_neg (by omega)]
  rw [if_neg (by omega)]
  rw [if_neg (by omega)]
  rw [if_neg (by omega)]
  rw [if_neg (by omega)]
  rw [if_neg (by omega)]
  rw [if_neg (by omega)]
  rw [if_neg (by omega)]
  rw [if_neg (by omega)]
  rw [if_neg (by omega)]
def rFields (bs : List Int) : List Int → OpM → Nat → Int → OpM × Nat × Int
  | [], x, p, e => (x, p, e)
  | f :: l, x, p, e => rFields bs l (rField bs f x p e).1 (rField bs f x p e).2.1 (rField bs f x p e).2.2
theorem rFields_snoc (bs : List Int) (f : Int) : ∀ (l : List Int) (x : OpM) (p : Nat) (e : Int), rFields bs (l ++ [f]) x p e = rField bs f (rFields bs l x p e).1 (rFields bs l x p e).2.1 (rFields bs l x p e).2.2
  | [], _, _, _ => rfl
  | _ :: l, _, _, _ => rFields_snoc bs f l _ _ _
theorem rField_le {bs : List Int} {f : Int} {x : OpM} {p : Nat} {e : Int} (h : p ≤ bs.length) : (rField bs f x p e).2.1 ≤ bs.length := by
  by_cases hf : Ltr f
  · unfold Ltr at hf
    rcases hf with rfl | rfl | rfl | rfl | rfl | rfl | rfl | rfl | rfl | rfl | rfl | rfl
    · rw [rField_A]; exact rU_le h
    · rw [rField_B]; exact rU_le h
    · rw [rField_K]; exact rZ_le h
    · rw [rField_V]; exact rZ_le h
    · rw [rField_L]; exact rZ_le h
    · rw [rField_H]; exact rZ_le h
    · rw [rField_N]; exact rLim_le h
    · rw [rField_F]; exact rBool_le h
    · rw [rField_S]; exact rBytes_le (rLim_le h)
    · rw [rField_Y]; exact rBytes_le (rLim_le h)
    · rw [rField_E]; exact rEnts_le (rEl_le h)
    · rw [rField_C]; exact rChs_le (rEl_le h)
  · rw [rField_no hf]; exact h
/-- the empty operation of a code -/
def op0 (c : Int) : OpM := { code := c, a := 0, b := 0, key := 0, val := 0, lo := 0, hi := 0, n := 0, flag := false, name := ⟨#[]⟩, bytes := [], ents := [], chs := [] }
/-- the reader of operations -/
def rOp (bs : List Int) (p : Nat) : OpM × Nat × Int :=
  let c := rB bs p 0
  let r := rFields bs (fs c.1) (op0 c.1) c.2.1 (if isOp c.1 then c.2.2 else fl c.2.2 13)
  if r.2.2 ≠ 0 then (op0 0, 0, r.2.2) else r

def rNx (bs : List Int) (at_ : Int) : OpM × Int × Int := if at_ < 0 ∨ (bs.length : Int) < at_ then (op0 0, 0, 1) else ((rOp bs at_.toNat).1, ((rOp bs at_.toNat).2.1 : Int), (rOp bs at_.toNat).2.2)
theorem drop_getD {l : List Int} {k : Nat} (h : k < l.length) : l.drop k = l.getD k 0 :: l.drop (k + 1) := by
  rw [List.drop_eq_getElem_cons h, List.getD_eq_getElem?_getD, List.getElem?_eq_getElem h]; rfl
theorem rFields_end {bs l : List Int} {x : OpM} {p k : Nat} {e : Int} (h : ¬ k < l.length) : rFields bs (l.drop k) x p e = (x, p, e) := by
  rw [List.drop_eq_nil_of_le (by omega)]; rfl
theorem rFields_go {bs l : List Int} {x : OpM} {p k : Nat} {e : Int} (h : k < l.length) : rFields bs (l.drop k) x p e = rFields bs (l.drop (k + 1)) (rField bs (l.getD k 0) x p e).1 (rField bs (l.getD k 0) x p e).2.1 (rField bs (l.getD k 0) x p e).2.2 := by
  rw [drop_getD h]; rfl

theorem getD_some {l : List Int} {k : Nat} (h : k < l.length) : l[k]? = some (l.getD k 0) := by
  rw [List.getD_eq_getElem?_getD, List.getElem?_eq_getElem h]; rfl
theorem as_B8 {l : List Int} (h : As7 l) : B8 l := fun x hx => by have := h x hx; omega
theorem ltr_at {c : Int} {k : Nat} (h : k < (fs c).length) : (sb (mkS ((fs c).map (· + 32))))[k]? = some ((fs c).getD k 0 + 32) := by
  rw [sb_mkS (as_B8 (fs_as32 c)), List.getElem?_map, getD_some h]; rfl
theorem ltr_size (c : Int) : (mkS ((fs c).map (· + 32))).size = (fs c).length := by rw [mkS_size, List.length_map]
theorem ltr_in {c : Int} {k : Nat} (h : k < (fs c).length) : Ltr ((fs c).getD k 0) := fs_ltr c _ (List.mem_of_getElem? (getD_some h))
def eU (u : Int) : List Int := varint u.toNat
theorem eU_len {u : Int} (h : u ≤ 18446744073709551615) : (eU u).length ≤ 10 := varint_len 10 _ (by omega) (by omega)
def eZ (n : Int) : List Int := varint (zz n).toNat
def eF (b : Bool) : List Int := [if b then 1 else 0]
def eBytes (l : List Int) : List Int := eU l.length ++ l
def eEnts (l : List (Int × Int)) : List Int := eU l.length ++ l.flatMap fun x => eZ x.1 ++ eZ x.2
def eChs (l : List (Int × Int × Int × Int)) : List Int := eU l.length ++ l.flatMap fun x => x.1 % 256 :: (eZ x.2.1 ++ eZ x.2.2.1 ++ eZ x.2.2.2)
def I64 (n : Int) : Prop := -9223372036854775808 ≤ n ∧ n ≤ 9223372036854775807
def I64s (l : List Int) : Prop := ∀ x ∈ l, I64 x
def En64 (l : List (Int × Int)) : Prop := ∀ x ∈ l, I64 x.1 ∧ I64 x.2
def Ch64 (l : List (Int × Int × Int × Int)) : Prop := ∀ x ∈ l, I64 x.1 ∧ I64 x.2.1 ∧ I64 x.2.2.1 ∧ I64 x.2.2.2
theorem eZ_len {n : Int} (h : I64 n) : (eZ n).length ≤ 10 := varint_len 10 _ (by have := zz_b h; omega) (by omega)
theorem eBytes_len {l : List Int} (h : l.length ≤ 1000000) : (eBytes l).length ≤ 10 + l.length := by
  rw [eBytes, List.length_append]; exact Nat.add_le_add_right (eU_len (by omega)) _
theorem fm_len {α : Type} {f : α → List Int} {m : Nat} : ∀ {l : List α}, (∀ x ∈ l, (f x).length ≤ m) → (l.flatMap f).length ≤ m * l.length
  | [], _ => Nat.zero_le _
  | x :: l, h => by
    have h1 := h x (List.mem_cons_self ..)
    have h2 := fm_len (l := l) (fun y hy => h y (List.mem_cons_of_mem _ hy))
    simp only [List.flatMap_cons, List.length_append, List.length_cons, Nat.mul_succ]
    omega
def eEn (x : Int × Int) : List Int := eZ x.1 ++ eZ x.2
def eCh (x : Int × Int × Int × Int) : List Int := x.1 % 256 :: (eZ x.2.1 ++ eZ x.2.2.1 ++ eZ x.2.2.2)
theorem eEn_len {x : Int × Int} (h : I64 x.1 ∧ I64 x.2) : (eEn x).length ≤ 20 := by
  have h1 := eZ_len h.1; have h2 := eZ_len h.2
  simp only [eEn, List.length_append]; omega
theorem eCh_len {x : Int × Int × Int × Int} (h : I64 x.1 ∧ I64 x.2.1 ∧ I64 x.2.2.1 ∧ I64 x.2.2.2) : (eCh x).length ≤ 31 := by
  have h1 := eZ_len h.2.1; have h2 := eZ_len h.2.2.1; have h3 := eZ_len h.2.2.2
  simp only [eCh, List.length_append, List.length_cons]; omega
theorem eEnts_len {l : List (Int × Int)} (h : En64 l) (hl : l.length ≤ 10000) : (eEnts l).length ≤ 10 + 20 * l.length := by
  rw [eEnts, List.length_append]; exact Nat.add_le_add (eU_len (by omega)) (fm_len fun x hx => eEn_len (h x hx))
theorem eChs_len {l : List (Int × Int × Int × Int)} (h : Ch64 l) (hl : l.length ≤ 10000) : (eChs l).length ≤ 10 + 31 * l.length := by
  rw [eChs, List.length_append]; exact Nat.add_le_add (eU_len (by omega)) (fm_len fun x hx => eCh_len (h x hx))
theorem eKeys_len {l : List Int} (h : I64s l) : (l.flatMap eZ).length ≤ 10 * l.length := fm_len fun x hx => eZ_len (h x hx)
theorem fm_take {α : Type} (f : α → List Int) {l : List α} {k : Nat} {x : α} (h : l[k]? = some x) : (l.take (k + 1)).flatMap f = (l.take k).flatMap f ++ f x := by
  rw [List.take_add_one, h]; simp
theorem fm_all {α : Type} (f : α → List Int) {l : List α} {k : Nat} (h : l.length ≤ k) : (l.take k).flatMap f = l.flatMap f := by
  rw [List.take_of_length_le h]
def eField (f : Int) (x : OpM) : List Int :=
  if f = 65 then eU x.a
  else if f = 66 then eU x.b
  else if f = 75 then eZ x.key
  else if f = 86 then eZ x.val
  else if f = 76 then eZ x.lo
  else if f = 72 then eZ x.hi
  else if f = 78 then eU x.n
  else if f = 70 then eF x.flag
  else if f = 83 then eBytes (sb x.name)
  else if f = 89 then eBytes x.bytes
  else if f = 69 then eEnts x.ents
  else if f = 67 then eChs x.chs
  else []
def eOp (x : OpM) : List Int := x.code % 256 :: (fs x.code).flatMap fun f => eField f x

/-- the numbers of an operation lie in their kinds, its lists below the limits -/
structure OpW (x : OpM) : Prop where
  a : 0 ≤ x.a ∧ x.a ≤ 18446744073709551615
  b : 0 ≤ x.b ∧ x.b ≤ 18446744073709551615
  key : I64 x.key
  val : I64 x.val
  lo : I64 x.lo
  hi : I64 x.hi
  ents : En64 x.ents
  chs : Ch64 x.chs
structure OpL (x : OpM) : Prop where
  n : 0 ≤ x.n ∧ x.n ≤ 2147483647
  name : x.name.size ≤ 32
  bytes : x.bytes.length ≤ 65536
  ents : x.ents.length ≤ 1000
  chs : x.chs.length ≤ 1000
theorem eField_A {x : OpM} : eField 65 x = eU x.a := rfl
theorem eField_B {x : OpM} : eField 66 x = eU x.b := rfl
theorem eField_K {x : OpM} : eField 75 x = eZ x.key := rfl
theorem eField_V {x : OpM} : eField 86 x = eZ x.val := rfl
theorem eField_L {x : OpM} : eField 76 x = eZ x.lo := rfl
theorem eField_H {x : OpM} : eField 72 x = eZ x.hi := rfl
theorem eField_N {x : OpM} : eField 78 x = eU x.n := rfl
theorem eField_F {x : OpM} : eField 70 x = eF x.flag := rfl
theorem eField_S {x : OpM} : eField 83 x = eBytes (sb x.name) := rfl
theorem eField_Y {x : OpM} : eField 89 x = eBytes x.bytes := rfl
theorem eField_E {x : OpM} : eField 69 x = eEnts x.ents := rfl
theorem eField_C {x : OpM} : eField 67 x = eChs x.chs := rfl
theorem eField_no {f : Int} {x : OpM} (h : ¬ Ltr f) : eField f x = [] := by
  unfold Ltr at h
  unfold eField
  rw [if_neg (by omega)]
  rw [if_neg (by omega)]
  rw [if_neg (by omega)]
  rw [if_neg (by omega)]
  rw [if_neg (by omega)]
  rw [if_neg (by omega)]
  rw [if_neg (by omega)]
  rw [if_neg (by omega)]
  rw [if_neg (by omega)]
  rw [if_neg (by omega)]
  rw [if_neg (by omega)]
  rw [if_neg (by omega)]
theorem eField_len {f : Int} {x : OpM} (h : OpW x) (k : OpL x) : (eField f x).length ≤ 65546 := by
  have c := k.n; have d := k.name; have e := k.bytes; have i := k.ents; have j := k.chs
  by_cases hf : Ltr f
  · unfold Ltr at hf
    rcases hf with rfl | rfl | rfl | rfl | rfl | rfl | rfl | rfl | rfl | rfl | rfl | rfl
    · rw [eField_A]; have := eU_len h.a.2; omega
    · rw [eField_B]; have := eU_len h.b.2; omega
    · rw [eField_K]; have := eZ_len h.key; omega
    · rw [eField_V]; have := eZ_len h.val; omega
    · rw [eField_L]; have := eZ_len h.lo; omega
    · rw [eField_H]; have := eZ_len h.hi; omega
    · rw [eField_N]; have := eU_len (u := x.n) (by omega); omega
    · rw [eField_F]; simp [eF]
    · rw [eField_S]; have := eBytes_len (l := sb x.name) (by rw [sb_len]; omega); rw [sb_len] at this; omega
    · rw [eField_Y]; have := eBytes_len (l := x.bytes) (by omega); omega
    · rw [eField_E]; have := eEnts_len h.ents (by omega); omega
    · rw [eField_C]; have := eChs_len h.chs (by omega); omega
  · rw [eField_no hf]; simp

/-! what clear leaves -/
structure ZM where
  code : Int
  a : Int
  b : Int
  key : Int
  val : Int
  lo : Int
  hi : Int
  n : Int
  flag : Bool
  name : ByteArray
  lb : Nat
  le : Nat
  lc : Nat
def zOf (x : OpM) : ZM := { code := x.code, a := x.a, b := x.b, key := x.key, val := x.val, lo := x.lo, hi := x.hi, n := x.n, flag := x.flag, name := x.name, lb := (by8 x.bytes).length, le := (en2 x.ents).length, lc := (ch4 x.chs).length }
def clrZ (f : Int) (y : ZM) : ZM :=
  if f = 65 then { y with a := 0 }
  else if f = 66 then { y with b := 0 }
  else if f = 75 then { y with key := 0 }
  else if f = 86 then { y with val := 0 }
  else if f = 76 then { y with lo := 0 }
  else if f = 72 then { y with hi := 0 }
  else if f = 78 then { y with n := 0 }
  else if f = 70 then { y with flag := false }
  else if f = 83 then { y with name := ⟨#[]⟩ }
  else if f = 89 then { y with lb := 0 }
  else if f = 69 then { y with le := 0 }
  else if f = 67 then { y with lc := 0 }
  else y
theorem clrZ_A {y : ZM} : clrZ 65 y = { y with a := 0 } := rfl
theorem clrZ_B {y : ZM} : clrZ 66 y = { y with b := 0 } := rfl
theorem clrZ_K {y : ZM} : clrZ 75 y = { y with key := 0 } := rfl
theorem clrZ_V {y : ZM} : clrZ 86 y = { y with val := 0 } := rfl
theorem clrZ_L {y : ZM} : clrZ 76 y = { y with lo := 0 } := rfl
theorem clrZ_H {y : ZM} : clrZ 72 y = { y with hi := 0 } := rfl
theorem clrZ_N {y : ZM} : clrZ 78 y = { y with n := 0 } := rfl
theorem clrZ_F {y : ZM} : clrZ 70 y = { y with flag := false } := rfl
theorem clrZ_S {y : ZM} : clrZ 83 y = { y with name := ⟨#[]⟩ } := rfl
theorem clrZ_Y {y : ZM} : clrZ 89 y = { y with lb := 0 } := rfl
theorem clrZ_E {y : ZM} : clrZ 69 y = { y with le := 0 } := rfl
theorem clrZ_C {y : ZM} : clrZ 67 y = { y with lc := 0 } := rfl
theorem clrZ_no {f : Int} {y : ZM} (h : ¬ Ltr f) : clrZ f y = y := by
  unfold Ltr at h
  unfold clrZ
  rw [if_neg (by omega)]
  rw [if_neg (by omega)]
  rw [if_neg (by omega)]
  rw [if_neg (by omega)]
  rw [if_neg (by omega)]
  rw [if_neg (by omega)]
  rw [if_neg (by omega)]
  rw [if_neg (by omega)]
  rw [if_neg (by omega)]
  rw [if_neg (by omega)]
  rw [if_neg (by omega)]
  rw [if_neg (by omega)]
def clrZs : List Int → ZM → ZM
  | [], y => y
  | f :: l, y => clrZs l (clrZ f y)
theorem clrZs_go {l : List Int} {y : ZM} {k : Nat} (h : k < l.length) : clrZs (l.drop k) y = clrZs (l.drop (k + 1)) (clrZ (l.getD k 0) y) := by rw [drop_getD h]; rfl
theorem clrZs_end {l : List Int} {y : ZM} {k : Nat} (h : ¬ k < l.length) : clrZs (l.drop k) y = y := by rw [List.drop_eq_nil_of_le (by omega)]; rfl
theorem clrZ_A' {f : Int} {y : ZM} : (clrZ f y).a = if f = 65 then 0 else y.a := by
  by_cases hf : Ltr f
  · unfold Ltr at hf
    rcases hf with rfl | rfl | rfl | rfl | rfl | rfl | rfl | rfl | rfl | rfl | rfl | rfl <;> rfl
  · rw [clrZ_no hf, if_neg (by unfold Ltr at hf; omega)]
theorem clrZs_A : ∀ {l : List Int} {y : ZM}, (clrZs l y).a = if 65 ∈ l then 0 else y.a
  | [], _ => rfl
  | g :: l, y => by
    rw [clrZs, clrZs_A, clrZ_A']
    by_cases h1 : (65 : Int) ∈ l
    · rw [if_pos h1, if_pos (List.mem_cons_of_mem _ h1)]
    · rw [if_neg h1]
      by_cases h2 : g = 65
      · rw [if_pos h2, if_pos (by rw [h2]; exact List.mem_cons_self ..)]
      · rw [if_neg h2, if_neg (by simp only [List.mem_cons, not_or]; exact ⟨fun h => h2 h.symm, h1⟩)]
theorem clrZ_B' {f : Int} {y : ZM} : (clrZ f y).b = if f = 66 then 0 else y.b := by
  by_cases hf : Ltr f
  · unfold Ltr at hf
    rcases hf with rfl | rfl | rfl | rfl | rfl | rfl | rfl | rfl | rfl | rfl | rfl | rfl <;> rfl
  · rw [clrZ_no hf, if_neg (by unfold Ltr at hf; omega)]
theorem clrZs_B : ∀ {l : List Int} {y : ZM}, (clrZs l y).b = if 66 ∈ l then 0 else y.b
  | [], _ => rfl
  | g :: l, y => by
    rw [clrZs, clrZs_B, clrZ_B']
    by_cases h1 : (66 : Int) ∈ l
    · rw [if_pos h1, if_pos (List.mem_cons_of_mem _ h1)]
    · rw [if_neg h1]
      by_cases h2 : g = 66
      · rw [if_pos h2, if_pos (by rw [h2]; exact List.mem_cons_self ..)]
      · rw [if_neg h2, if_neg (by simp only [List.mem_cons, not_or]; exact ⟨fun h => h2 h.symm, h1⟩)]
theorem clrZ_K' {f : Int} {y : ZM} : (clrZ f y).key = if f = 75 then 0 else y.key := by
  by_cases hf : Ltr f
  · unfold Ltr at hf
    rcases hf with rfl | rfl | rfl | rfl | rfl | rfl | rfl | rfl | rfl | rfl | rfl | rfl <;> rfl
  · rw [clrZ_no hf, if_neg (by unfold Ltr at hf; omega)]
theorem clrZs_K : ∀ {l : List Int} {y : ZM}, (clrZs l y).key = if 75 ∈ l then 0 else y.key
  | [], _ => rfl
  | g :: l, y => by
    rw [clrZs, clrZs_K, clrZ_K']
    by_cases h1 : (75 : Int) ∈ l
    · rw [if_pos h1, if_pos (List.mem_cons_of_mem _ h1)]
    · rw [if_neg h1]
      by_cases h2 : g = 75
      · rw [if_pos h2, if_pos (by rw [h2]; exact List.mem_cons_self ..)]
      · rw [if_neg h2, if_neg (by simp only [List.mem_cons, not_or]; exact ⟨fun h => h2 h.symm, h1⟩)]
theorem clrZ_V' {f : Int} {y : ZM} : (clrZ f y).val = if f = 86 then 0 else y.val := by
  by_cases hf : Ltr f
  · unfold Ltr at hf
    rcases hf with rfl | rfl | rfl | rfl | rfl | rfl | rfl | rfl | rfl | rfl | rfl | rfl <;> rfl
  · rw [clrZ_no hf, if_neg (by unfold Ltr at hf; omega)]
theorem clrZs_V : ∀ {l : List Int} {y : ZM}, (clrZs l y).val = if 86 ∈ l then 0 else y.val
  | [], _ => rfl
  | g :: l, y => by
    rw [clrZs, clrZs_V, clrZ_V']
    by_cases h1 : (86 : Int) ∈ l
    · rw [if_pos h1, if_pos (List.mem_cons_of_mem _ h1)]
    · rw [if_neg h1]
      by_cases h2 : g = 86
      · rw [if_pos h2, if_pos (by rw [h2]; exact List.mem_cons_self ..)]
      · rw [if_neg h2, if_neg (by simp only [List.mem_cons, not_or]; exact ⟨fun h => h2 h.symm, h1⟩)]
theorem clrZ_L' {f : Int} {y : ZM} : (clrZ f y).lo = if f = 76 then 0 else y.lo := by
  by_cases hf : Ltr f
  · unfold Ltr at hf
    rcases hf with rfl | rfl | rfl | rfl | rfl | rfl | rfl | rfl | rfl | rfl | rfl | rfl <;> rfl
  · rw [clrZ_no hf, if_neg (by unfold Ltr at hf; omega)]
theorem clrZs_L : ∀ {l : List Int} {y : ZM}, (clrZs l y).lo = if 76 ∈ l then 0 else y.lo
  | [], _ => rfl
  | g :: l, y => by
    rw [clrZs, clrZs_L, clrZ_L']
    by_cases h1 : (76 : Int) ∈ l
    · rw [if_pos h1, if_pos (List.mem_cons_of_mem _ h1)]
    · rw [if_neg h1]
      by_cases h2 : g = 76
      · rw [if_pos h2, if_pos (by rw [h2]; exact List.mem_cons_self ..)]
      · rw [if_neg h2, if_neg (by simp only [List.mem_cons, not_or]; exact ⟨fun h => h2 h.symm, h1⟩)]
theorem clrZ_H' {f : Int} {y : ZM} : (clrZ f y).hi = if f = 72 then 0 else y.hi := by
  by_cases hf : Ltr f
  · unfold Ltr at hf
    rcases hf with rfl | rfl | rfl | rfl | rfl | rfl | rfl | rfl | rfl | rfl | rfl | rfl <;> rfl
  · rw [clrZ_no hf, if_neg (by unfold Ltr at hf; omega)]
theorem clrZs_H : ∀ {l : List Int} {y : ZM}, (clrZs l y).hi = if 72 ∈ l then 0 else y.hi
  | [], _ => rfl
  | g :: l, y => by
    rw [clrZs, clrZs_H, clrZ_H']
    by_cases h1 : (72 : Int) ∈ l
    · rw [if_pos h1, if_pos (List.mem_cons_of_mem _ h1)]
    · rw [if_neg h1]
      by_cases h2 : g = 72
      · rw [if_pos h2, if_pos (by rw [h2]; exact List.mem_cons_self ..)]
      · rw [if_neg h2, if_neg (by simp only [List.mem_cons, not_or]; exact ⟨fun h => h2 h.symm, h1⟩)]
theorem clrZ_N' {f : Int} {y : ZM} : (clrZ f y).n = if f = 78 then 0 else y.n := by
  by_cases hf : Ltr f
  · unfold Ltr at hf
    rcases hf with rfl | rfl | rfl | rfl | rfl | rfl | rfl | rfl | rfl | rfl | rfl | rfl <;> rfl
  · rw [clrZ_no hf, if_neg (by unfold Ltr at hf; omega)]
theorem clrZs_N : ∀ {l : List Int} {y : ZM}, (clrZs l y).n = if 78 ∈ l then 0 else y.n
  | [], _ => rfl
  | g :: l, y => by
    rw [clrZs, clrZs_N, clrZ_N']
    by_cases h1 : (78 : Int) ∈ l
    · rw [if_pos h1, if_pos (List.mem_cons_of_mem _ h1)]
    · rw [if_neg h1]
      by_cases h2 : g = 78
      · rw [if_pos h2, if_pos (by rw [h2]; exact List.mem_cons_self ..)]
      · rw [if_neg h2, if_neg (by simp only [List.mem_cons, not_or]; exact ⟨fun h => h2 h.symm, h1⟩)]
theorem clrZ_F' {f : Int} {y : ZM} : (clrZ f y).flag = if f = 70 then false else y.flag := by
  by_cases hf : Ltr f
  · unfold Ltr at hf
    rcases hf with rfl | rfl | rfl | rfl | rfl | rfl | rfl | rfl | rfl | rfl | rfl | rfl <;> rfl
  · rw [clrZ_no hf, if_neg (by unfold Ltr at hf; omega)]
theorem clrZs_F : ∀ {l : List Int} {y : ZM}, (clrZs l y).flag = if 70 ∈ l then false else y.flag
  | [], _ => rfl
  | g :: l, y => by
    rw [clrZs, clrZs_F, clrZ_F']
    by_cases h1 : (70 : Int) ∈ l
    · rw [if_pos h1, if_pos (List.mem_cons_of_mem _ h1)]
    · rw [if_neg h1]
      by_cases h2 : g = 70
      · rw [if_pos h2, if_pos (by rw [h2]; exact List.mem_cons_self ..)]
      · rw [if_neg h2, if_neg (by simp only [List.mem_cons, not_or]; exact ⟨fun h => h2 h.symm, h1⟩)]
theorem clrZ_S' {f : Int} {y : ZM} : (clrZ f y).name = if f = 83 then ⟨#[]⟩ else y.name := by
  by_cases hf : Ltr f
  · unfold Ltr at hf
    rcases hf with rfl | rfl | rfl | rfl | rfl | rfl | rfl | rfl | rfl | rfl | rfl | rfl <;> rfl
  · rw [clrZ_no hf, if_neg (by unfold Ltr at hf; omega)]
theorem clrZs_S : ∀ {l : List Int} {y : ZM}, (clrZs l y).name = if 83 ∈ l then ⟨#[]⟩ else y.name
  | [], _ => rfl
  | g :: l, y => by
    rw [clrZs, clrZs_S, clrZ_S']
    by_cases h1 : (83 : Int) ∈ l
    · rw [if_pos h1, if_pos (List.mem_cons_of_mem _ h1)]
    · rw [if_neg h1]
      by_cases h2 : g = 83
      · rw [if_pos h2, if_pos (by rw [h2]; exact List.mem_cons_self ..)]
      · rw [if_neg h2, if_neg (by simp only [List.mem_cons, not_or]; exact ⟨fun h => h2 h.symm, h1⟩)]
theorem clrZ_Y' {f : Int} {y : ZM} : (clrZ f y).lb = if f = 89 then 0 else y.lb := by
  by_cases hf : Ltr f
  · unfold Ltr at hf
    rcases hf with rfl | rfl | rfl | rfl | rfl | rfl | rfl | rfl | rfl | rfl | rfl | rfl <;> rfl
  · rw [clrZ_no hf, if_neg (by unfold Ltr at hf; omega)]
theorem clrZs_Y : ∀ {l : List Int} {y : ZM}, (clrZs l y).lb = if 89 ∈ l then 0 else y.lb
  | [], _ => rfl
  | g :: l, y => by
    rw [clrZs, clrZs_Y, clrZ_Y']
    by_cases h1 : (89 : Int) ∈ l
    · rw [if_pos h1, if_pos (List.mem_cons_of_mem _ h1)]
    · rw [if_neg h1]
      by_cases h2 : g = 89
      · rw [if_pos h2, if_pos (by rw [h2]; exact List.mem_cons_self ..)]
      · rw [if_neg h2, if_neg (by simp only [List.mem_cons, not_or]; exact ⟨fun h => h2 h.symm, h1⟩)]
theorem clrZ_E' {f : Int} {y : ZM} : (clrZ f y).le = if f = 69 then 0 else y.le := by
  by_cases hf : Ltr f
  · unfold Ltr at hf
    rcases hf with rfl | rfl | rfl | rfl | rfl | rfl | rfl | rfl | rfl | rfl | rfl | rfl <;> rfl
  · rw [clrZ_no hf, if_neg (by unfold Ltr at hf; omega)]
theorem clrZs_E : ∀ {l : List Int} {y : ZM}, (clrZs l y).le = if 69 ∈ l then 0 else y.le
  | [], _ => rfl
  | g :: l, y => by
    rw [clrZs, clrZs_E, clrZ_E']
    by_cases h1 : (69 : Int) ∈ l
    · rw [if_pos h1, if_pos (List.mem_cons_of_mem _ h1)]
    · rw [if_neg h1]
      by_cases h2 : g = 69
      · rw [if_pos h2, if_pos (by rw [h2]; exact List.mem_cons_self ..)]
      · rw [if_neg h2, if_neg (by simp only [List.mem_cons, not_or]; exact ⟨fun h => h2 h.symm, h1⟩)]
theorem clrZ_C' {f : Int} {y : ZM} : (clrZ f y).lc = if f = 67 then 0 else y.lc := by
  by_cases hf : Ltr f
  · unfold Ltr at hf
    rcases hf with rfl | rfl | rfl | rfl | rfl | rfl | rfl | rfl | rfl | rfl | rfl | rfl <;> rfl
  · rw [clrZ_no hf, if_neg (by unfold Ltr at hf; omega)]
theorem clrZs_C : ∀ {l : List Int} {y : ZM}, (clrZs l y).lc = if 67 ∈ l then 0 else y.lc
  | [], _ => rfl
  | g :: l, y => by
    rw [clrZs, clrZs_C, clrZ_C']
    by_cases h1 : (67 : Int) ∈ l
    · rw [if_pos h1, if_pos (List.mem_cons_of_mem _ h1)]
    · rw [if_neg h1]
      by_cases h2 : g = 67
      · rw [if_pos h2, if_pos (by rw [h2]; exact List.mem_cons_self ..)]
      · rw [if_neg h2, if_neg (by simp only [List.mem_cons, not_or]; exact ⟨fun h => h2 h.symm, h1⟩)]
/-- the fields that a code does not have are zero -/
def zeroOp (x : OpM) : Prop := (65 ∉ fs x.code → x.a = 0) ∧ (66 ∉ fs x.code → x.b = 0) ∧ (75 ∉ fs x.code → x.key = 0) ∧ (86 ∉ fs x.code → x.val = 0) ∧ (76 ∉ fs x.code → x.lo = 0) ∧ (72 ∉ fs x.code → x.hi = 0) ∧ (78 ∉ fs x.code → x.n = 0) ∧ (70 ∉ fs x.code → x.flag = false) ∧ (83 ∉ fs x.code → x.name = ⟨#[]⟩) ∧ (89 ∉ fs x.code → x.bytes.length = 0) ∧ (69 ∉ fs x.code → x.ents.length = 0) ∧ (67 ∉ fs x.code → x.chs.length = 0)
theorem ite_z {α : Type} {p : Prop} [Decidable p] {z v : α} : ((if p then z else v) = z) = (¬ p → v = z) := by
  by_cases h : p <;> simp [h]
theorem nat0 {n : Nat} : ((n : Int) = 0) = (n = 0) := by
  apply propext; omega
theorem zero_iff {x : OpM} {y : ZM} (h : y = clrZs (fs x.code) (zOf x)) : (y.a = 0 ∧ y.b = 0 ∧ y.key = 0 ∧ y.val = 0 ∧ y.lo = 0 ∧ y.hi = 0 ∧ y.n = 0 ∧ y.flag = false ∧ y.name = ⟨#[]⟩ ∧ y.lb = 0 ∧ y.le = 0 ∧ y.lc = 0) ↔ zeroOp x := by
  subst h
  rw [clrZs_A, clrZs_B, clrZs_K, clrZs_V, clrZs_L, clrZs_H, clrZs_N, clrZs_F, clrZs_S, clrZs_Y, clrZs_E, clrZs_C]
  simp only [ite_z, zOf, by8_len, en2_len, ch4_len]
  exact Iff.rfl
def okOp (x : OpM) : Prop := isOp x.code = true ∧ OpL x ∧ (∀ c ∈ x.chs, 0 ≤ c.1 ∧ c.1 ≤ 255) ∧ zeroOp x

structure AnM where
  err : Int
  handle : Int
  value : Int
  found : Bool
  n : Int
  ekey : Int
  eval : Int
  count : Int
  sum : Int
  mn : Int
  mx : Int
  ents : List (Int × Int)
  chs : List (Int × Int × Int × Int)
  keys : List Int
  bytes : List Int
/-- the numbers of an answer lie in their kinds, its lists below a bound -/
structure AnW (x : AnM) : Prop where
  err : I64 x.err
  handle : 0 ≤ x.handle ∧ x.handle ≤ 18446744073709551615
  value : I64 x.value
  n : I64 x.n
  ekey : I64 x.ekey
  eval : I64 x.eval
  count : I64 x.count
  sum : I64 x.sum
  mn : I64 x.mn
  mx : I64 x.mx
  ents : En64 x.ents
  chs : Ch64 x.chs
  keys : I64s x.keys
  le : x.ents.length ≤ 100
  lc : x.chs.length ≤ 100
  lk : x.keys.length ≤ 100
  lb : x.bytes.length ≤ 1000
def an0 : AnM := { err := 0, handle := 0, value := 0, found := false, n := 0, ekey := 0, eval := 0, count := 0, sum := 0, mn := 0, mx := 0, ents := [], chs := [], keys := [], bytes := [] }
/-! the reader of answers, step by step -/
def an19 (r1 : Int × Nat × Int) (r2 : Int × Nat × Int) (r3 : Int × Nat × Int) (r4 : Bool × Nat × Int) (r5 : Int × Nat × Int) (r6 : Int × Nat × Int) (r7 : Int × Nat × Int) (r8 : Int × Nat × Int) (r9 : Int × Nat × Int) (r10 : Int × Nat × Int) (r11 : Int × Nat × Int) (r13 : List (Int × Int) × Nat × Int) (r15 : List (Int × Int × Int × Int) × Nat × Int) (r17 : List Int × Nat × Int) (r19 : List Int × Nat × Int) : AnM × Nat × Int := ({ err := r1.1, handle := r2.1, value := r3.1, found := r4.1, n := r5.1, ekey := r6.1, eval := r7.1, count := r8.1, sum := r9.1, mn := r10.1, mx := r11.1, ents := r13.1, chs := r15.1, keys := r17.1, bytes := r19.1 }, r19.2)
def an18 (bs : List Int) (r1 : Int × Nat × Int) (r2 : Int × Nat × Int) (r3 : Int × Nat × Int) (r4 : Bool × Nat × Int) (r5 : Int × Nat × Int) (r6 : Int × Nat × Int) (r7 : Int × Nat × Int) (r8 : Int × Nat × Int) (r9 : Int × Nat × Int) (r10 : Int × Nat × Int) (r11 : Int × Nat × Int) (r13 : List (Int × Int) × Nat × Int) (r15 : List (Int × Int × Int × Int) × Nat × Int) (r17 : List Int × Nat × Int) (r18 : Int × Nat × Int) : AnM × Nat × Int := an19 r1 r2 r3 r4 r5 r6 r7 r8 r9 r10 r11 r13 r15 r17 (rBytes bs r18.1.toNat r18.2.1 r18.2.2)
def an17 (bs : List Int) (r1 : Int × Nat × Int) (r2 : Int × Nat × Int) (r3 : Int × Nat × Int) (r4 : Bool × Nat × Int) (r5 : Int × Nat × Int) (r6 : Int × Nat × Int) (r7 : Int × Nat × Int) (r8 : Int × Nat × Int) (r9 : Int × Nat × Int) (r10 : Int × Nat × Int) (r11 : Int × Nat × Int) (r13 : List (Int × Int) × Nat × Int) (r15 : List (Int × Int × Int × Int) × Nat × Int) (r17 : List Int × Nat × Int) : AnM × Nat × Int := an18 bs r1 r2 r3 r4 r5 r6 r7 r8 r9 r10 r11 r13 r15 r17 (rCnt bs r17.2.1 r17.2.2)
def an16 (bs : List Int) (r1 : Int × Nat × Int) (r2 : Int × Nat × Int) (r3 : Int × Nat × Int) (r4 : Bool × Nat × Int) (r5 : Int × Nat × Int) (r6 : Int × Nat × Int) (r7 : Int × Nat × Int) (r8 : Int × Nat × Int) (r9 : Int × Nat × Int) (r10 : Int × Nat × Int) (r11 : Int × Nat × Int) (r13 : List (Int × Int) × Nat × Int) (r15 : List (Int × Int × Int × Int) × Nat × Int) (r16 : Int × Nat × Int) : AnM × Nat × Int := an17 bs r1 r2 r3 r4 r5 r6 r7 r8 r9 r10 r11 r13 r15 (rInts bs r16.1.toNat r16.2.1 r16.2.2)
def an15 (bs : List Int) (r1 : Int × Nat × Int) (r2 : Int × Nat × Int) (r3 : Int × Nat × Int) (r4 : Bool × Nat × Int) (r5 : Int × Nat × Int) (r6 : Int × Nat × Int) (r7 : Int × Nat × Int) (r8 : Int × Nat × Int) (r9 : Int × Nat × Int) (r10 : Int × Nat × Int) (r11 : Int × Nat × Int) (r13 : List (Int × Int) × Nat × Int) (r15 : List (Int × Int × Int × Int) × Nat × Int) : AnM × Nat × Int := an16 bs r1 r2 r3 r4 r5 r6 r7 r8 r9 r10 r11 r13 r15 (rCnt bs r15.2.1 r15.2.2)
def an14 (bs : List Int) (r1 : Int × Nat × Int) (r2 : Int × Nat × Int) (r3 : Int × Nat × Int) (r4 : Bool × Nat × Int) (r5 : Int × Nat × Int) (r6 : Int × Nat × Int) (r7 : Int × Nat × Int) (r8 : Int × Nat × Int) (r9 : Int × Nat × Int) (r10 : Int × Nat × Int) (r11 : Int × Nat × Int) (r13 : List (Int × Int) × Nat × Int) (r14 : Int × Nat × Int) : AnM × Nat × Int := an15 bs r1 r2 r3 r4 r5 r6 r7 r8 r9 r10 r11 r13 (rChs bs r14.1.toNat r14.2.1 r14.2.2)
def an13 (bs : List Int) (r1 : Int × Nat × Int) (r2 : Int × Nat × Int) (r3 : Int × Nat × Int) (r4 : Bool × Nat × Int) (r5 : Int × Nat × Int) (r6 : Int × Nat × Int) (r7 : Int × Nat × Int) (r8 : Int × Nat × Int) (r9 : Int × Nat × Int) (r10 : Int × Nat × Int) (r11 : Int × Nat × Int) (r13 : List (Int × Int) × Nat × Int) : AnM × Nat × Int := an14 bs r1 r2 r3 r4 r5 r6 r7 r8 r9 r10 r11 r13 (rCnt bs r13.2.1 r13.2.2)
def an12 (bs : List Int) (r1 : Int × Nat × Int) (r2 : Int × Nat × Int) (r3 : Int × Nat × Int) (r4 : Bool × Nat × Int) (r5 : Int × Nat × Int) (r6 : Int × Nat × Int) (r7 : Int × Nat × Int) (r8 : Int × Nat × Int) (r9 : Int × Nat × Int) (r10 : Int × Nat × Int) (r11 : Int × Nat × Int) (r12 : Int × Nat × Int) : AnM × Nat × Int := an13 bs r1 r2 r3 r4 r5 r6 r7 r8 r9 r10 r11 (rEnts bs r12.1.toNat r12.2.1 r12.2.2)
def an11 (bs : List Int) (r1 : Int × Nat × Int) (r2 : Int × Nat × Int) (r3 : Int × Nat × Int) (r4 : Bool × Nat × Int) (r5 : Int × Nat × Int) (r6 : Int × Nat × Int) (r7 : Int × Nat × Int) (r8 : Int × Nat × Int) (r9 : Int × Nat × Int) (r10 : Int × Nat × Int) (r11 : Int × Nat × Int) : AnM × Nat × Int := an12 bs r1 r2 r3 r4 r5 r6 r7 r8 r9 r10 r11 (rCnt bs r11.2.1 r11.2.2)
def an10 (bs : List Int) (r1 : Int × Nat × Int) (r2 : Int × Nat × Int) (r3 : Int × Nat × Int) (r4 : Bool × Nat × Int) (r5 : Int × Nat × Int) (r6 : Int × Nat × Int) (r7 : Int × Nat × Int) (r8 : Int × Nat × Int) (r9 : Int × Nat × Int) (r10 : Int × Nat × Int) : AnM × Nat × Int := an11 bs r1 r2 r3 r4 r5 r6 r7 r8 r9 r10 (rZ bs r10.2.1 r10.2.2)
def an9 (bs : List Int) (r1 : Int × Nat × Int) (r2 : Int × Nat × Int) (r3 : Int × Nat × Int) (r4 : Bool × Nat × Int) (r5 : Int × Nat × Int) (r6 : Int × Nat × Int) (r7 : Int × Nat × Int) (r8 : Int × Nat × Int) (r9 : Int × Nat × Int) : AnM × Nat × Int := an10 bs r1 r2 r3 r4 r5 r6 r7 r8 r9 (rZ bs r9.2.1 r9.2.2)
def an8 (bs : List Int) (r1 : Int × Nat × Int) (r2 : Int × Nat × Int) (r3 : Int × Nat × Int) (r4 : Bool × Nat × Int) (r5 : Int × Nat × Int) (r6 : Int × Nat × Int) (r7 : Int × Nat × Int) (r8 : Int × Nat × Int) : AnM × Nat × Int := an9 bs r1 r2 r3 r4 r5 r6 r7 r8 (rZ bs r8.2.1 r8.2.2)
def an7 (bs : List Int) (r1 : Int × Nat × Int) (r2 : Int × Nat × Int) (r3 : Int × Nat × Int) (r4 : Bool × Nat × Int) (r5 : Int × Nat × Int) (r6 : Int × Nat × Int) (r7 : Int × Nat × Int) : AnM × Nat × Int := an8 bs r1 r2 r3 r4 r5 r6 r7 (rZ bs r7.2.1 r7.2.2)
def an6 (bs : List Int) (r1 : Int × Nat × Int) (r2 : Int × Nat × Int) (r3 : Int × Nat × Int) (r4 : Bool × Nat × Int) (r5 : Int × Nat × Int) (r6 : Int × Nat × Int) : AnM × Nat × Int := an7 bs r1 r2 r3 r4 r5 r6 (rZ bs r6.2.1 r6.2.2)
def an5 (bs : List Int) (r1 : Int × Nat × Int) (r2 : Int × Nat × Int) (r3 : Int × Nat × Int) (r4 : Bool × Nat × Int) (r5 : Int × Nat × Int) : AnM × Nat × Int := an6 bs r1 r2 r3 r4 r5 (rZ bs r5.2.1 r5.2.2)
def an4 (bs : List Int) (r1 : Int × Nat × Int) (r2 : Int × Nat × Int) (r3 : Int × Nat × Int) (r4 : Bool × Nat × Int) : AnM × Nat × Int := an5 bs r1 r2 r3 r4 (rZ bs r4.2.1 r4.2.2)
def an3 (bs : List Int) (r1 : Int × Nat × Int) (r2 : Int × Nat × Int) (r3 : Int × Nat × Int) : AnM × Nat × Int := an4 bs r1 r2 r3 (rBool bs r3.2.1 r3.2.2)
def an2 (bs : List Int) (r1 : Int × Nat × Int) (r2 : Int × Nat × Int) : AnM × Nat × Int := an3 bs r1 r2 (rZ bs r2.2.1 r2.2.2)
def an1 (bs : List Int) (r1 : Int × Nat × Int) : AnM × Nat × Int := an2 bs r1 (rU bs r1.2.1 r1.2.2)
/-- the reader of answers -/
def rAns (bs : List Int) (p : Nat) : AnM × Nat × Int := an1 bs (rLim bs 255 p 0)
def rNxa (bs : List Int) (at_ : Int) : AnM × Int × Int :=
  if at_ < 0 ∨ (bs.length : Int) < at_ then (an0, 0, 1) else if (rAns bs at_.toNat).2.2 ≠ 0 then (an0, 0, (rAns bs at_.toNat).2.2) else ((rAns bs at_.toNat).1, ((rAns bs at_.toNat).2.1 : Int), 0)
def eAn (x : AnM) : List Int := eU (x.err % 18446744073709551616) ++ eU x.handle ++ eZ x.value ++ eF x.found ++ eZ x.n ++ eZ x.ekey ++ eZ x.eval ++ eZ x.count ++ eZ x.sum ++ eZ x.mn ++ eZ x.mx ++ eEnts x.ents ++ eChs x.chs ++ (eU x.keys.length ++ x.keys.flatMap eZ) ++ eBytes x.bytes
end Go.V
