/-
  Plain model: an operation with only the fields of its code; equal operations.
  Conditions: none.
-/
import Derived.Test.YtofnoopjlmdelaaOpx
import Derived.Test.YtofnoopjlmdelaaEnx
namespace Go.V
open Go

/-- copies one field of x into y -/
def setF (f : Int) (x y : OpM) : OpM :=
  if f = 65 then { y with a := x.a }
  else if f = 66 then { y with b := x.b }
  else if f = 75 then { y with key := x.key }
  else if f = 86 then { y with val := x.val }
  else if f = 76 then { y with lo := x.lo }
  else if f = 72 then { y with hi := x.hi }
  else if f = 78 then { y with n := x.n }
  else if f = 70 then { y with flag := x.flag }
  else if f = 83 then { y with name := x.name }
  else if f = 89 then { y with bytes := x.bytes }
  else if f = 69 then { y with ents := x.ents }
  else if f = 67 then { y with chs := x.chs }
  else y
theorem setF_A {x y : OpM} : setF 65 x y = { y with a := x.a } := rfl
theorem setF_B {x y : OpM} : setF 66 x y = { y with b := x.b } := rfl
theorem setF_K {x y : OpM} : setF 75 x y = { y with key := x.key } := rfl
theorem setF_V {x y : OpM} : setF 86 x y = { y with val := x.val } := rfl
theorem setF_L {x y : OpM} : setF 76 x y = { y with lo := x.lo } := rfl
theorem setF_H {x y : OpM} : setF 72 x y = { y with hi := x.hi } := rfl
theorem setF_N {x y : OpM} : setF 78 x y = { y with n := x.n } := rfl
theorem setF_F {x y : OpM} : setF 70 x y = { y with flag := x.flag } := rfl
theorem setF_S {x y : OpM} : setF 83 x y = { y with name := x.name } := rfl
theorem setF_Y {x y : OpM} : setF 89 x y = { y with bytes := x.bytes } := rfl
theorem setF_E {x y : OpM} : setF 69 x y = { y with ents := x.ents } := rfl
theorem setF_C {x y : OpM} : setF 67 x y = { y with chs := x.chs } := rfl
def setFs : List Int → OpM → OpM → OpM
  | [], _, y => y
  | f :: l, x, y => setFs l x (setF f x y)
theorem setFs_go {l : List Int} {x y : OpM} {k : Nat} (h : k < l.length) : setFs (l.drop k) x y = setFs (l.drop (k + 1)) x (setF (l.getD k 0) x y) := by rw [drop_getD h]; rfl
theorem setFs_end {l : List Int} {x y : OpM} {k : Nat} (h : ¬ k < l.length) : setFs (l.drop k) x y = y := by rw [List.drop_eq_nil_of_le (by omega)]; rfl
def only (x : OpM) : OpM := setFs (fs x.code) x (op0 x.code)
/-- a slice that is the one or nil -/
def SelA {α : Type} (a2 : Option Addr) (c2 : Nat) (ms : List α) (a : Option Addr) (c : Nat) (ls : List α) : Prop := (a2 = a ∧ c2 = c ∧ ms = ls) ∨ (a2 = none ∧ c2 = 0 ∧ ms = [])
theorem SelA.same {α : Type} {a : Option Addr} {c : Nat} {ls : List α} : SelA a c ls a c ls := .inl ⟨rfl, rfl, rfl⟩
theorem SelA.nil {α : Type} {a : Option Addr} {c : Nat} {ls : List α} : SelA none 0 [] a c ls := .inr ⟨rfl, rfl, rfl⟩
theorem St.selA {α : Type} {g w : World} {L : List HP} {e size : Nat} {en : List α → List (List Value)} {ms ls : List α} {a a2 : Option Addr} {c c2 : Nat} (hS : St g L w) (i : Nat) (hi : L[i]? = some (Sh e size (en ls) a c)) (he : en [] = []) (h : SelA a2 c2 ms a c ls) : St g (Sh e size (en ms) a2 c2 :: L) w := by
  rcases h with ⟨rfl, rfl, rfl⟩ | ⟨rfl, rfl, rfl⟩
  · exact hS.dup i hi fun _ _ h => Sh.dup h
  · rw [he]; exact hS.nilS _ _
/-- equality of operations -/
theorem OpM.ext' {x y : OpM} (h : x.code = y.code ∧ x.a = y.a ∧ x.b = y.b ∧ x.key = y.key ∧ x.val = y.val ∧ x.lo = y.lo ∧ x.hi = y.hi ∧ x.n = y.n ∧ x.flag = y.flag ∧ x.name = y.name ∧ x.bytes = y.bytes ∧ x.ents = y.ents ∧ x.chs = y.chs) : x = y := by
  cases x; cases y; simp only [OpM.mk.injEq]; exact h
theorem mkS_inj {l m : List Int} (hl : B8 l) (hm : B8 m) (h : mkS l = mkS m) : l = m := by rw [← sb_mkS hl, ← sb_mkS hm, h]
def okOp2 (x : OpM) : Prop := isOp x.code = true ∧ x = only x ∧ OpL x ∧ (∀ c ∈ x.chs, 0 ≤ c.1 ∧ c.1 ≤ 255)
theorem setF_no {f : Int} {x y : OpM} (h : ¬ Ltr f) : setF f x y = y := by
  unfold Ltr at h
  unfold setF
  rw [if_neg (by omega)]
  rw [if_neg (by omega)]
  rw [if_neg (by omega)]
  rw [if_neg (by omega)]
  rw [if_neg (by omega)]
  rw [if_neg (by omega)]
  rw [if_neg (by omega)]
  rw [if_neg (by omega)]
  rw [if_neg (by omega)]
  rw [if_neg (by omega)]
  rw [if_neg (by omega)]
  rw [if_neg (by omega)]
theorem setF_code {f : Int} {x y : OpM} : (setF f x y).code = y.code := by
  by_cases hf : Ltr f
  · unfold Ltr at hf
    rcases hf with rfl | rfl | rfl | rfl | rfl | rfl | rfl | rfl | rfl | rfl | rfl | rfl <;> rfl
  · rw [setF_no hf]
theorem setF_bytes {f : Int} {x y : OpM} (hx : B8 x.bytes) (hy : B8 y.bytes) : B8 (setF f x y).bytes := by
  by_cases hf : Ltr f
  · unfold Ltr at hf
    rcases hf with rfl | rfl | rfl | rfl | rfl | rfl | rfl | rfl | rfl | rfl | rfl | rfl <;> first | exact hy | exact hx
  · rw [setF_no hf]; exact hy
theorem setFs_code : ∀ {l : List Int} {x y : OpM}, (setFs l x y).code = y.code
  | [], _, _ => rfl
  | _ :: l, x, y => by rw [setFs, setFs_code, setF_code]
theorem only_B8 {x : OpM} (h : B8 x.bytes) : B8 (only x).bytes := by
  have h1 : ∀ (l : List Int) (y : OpM), B8 y.bytes → B8 (setFs l x y).bytes := by
    intro l
    induction l with
    | nil => exact fun y hy => hy
    | cons f l ih =>
      intro y hy
      exact ih _ (setF_bytes h hy)
  exact h1 _ _ (fun _ h => by cases h)
theorem setF_A' {f : Int} {x y : OpM} : (setF f x y).a = if f = 65 then x.a else y.a := by
  by_cases hf : Ltr f
  · unfold Ltr at hf
    rcases hf with rfl | rfl | rfl | rfl | rfl | rfl | rfl | rfl | rfl | rfl | rfl | rfl <;> rfl
  · rw [setF_no hf, if_neg (by unfold Ltr at hf; omega)]
theorem setFs_A : ∀ {l : List Int} {x y : OpM}, (setFs l x y).a = if 65 ∈ l then x.a else y.a
  | [], _, _ => rfl
  | g :: l, x, y => by
    rw [setFs, setFs_A, setF_A']
    by_cases h1 : (65 : Int) ∈ l
    · rw [if_pos h1, if_pos (List.mem_cons_of_mem _ h1)]
    · rw [if_neg h1]
      by_cases h2 : g = 65
      · rw [if_pos h2, if_pos (by rw [h2]; exact List.mem_cons_self ..)]
      · rw [if_neg h2, if_neg (by simp only [List.mem_cons, not_or]; exact ⟨fun h => h2 h.symm, h1⟩)]
theorem setF_B' {f : Int} {x y : OpM} : (setF f x y).b = if f = 66 then x.b else y.b := by
  by_cases hf : Ltr f
  · unfold Ltr at hf
    rcases hf with rfl | rfl | rfl | rfl | rfl | rfl | rfl | rfl | rfl | rfl | rfl | rfl <;> rfl
  · rw [setF_no hf, if_neg (by unfold Ltr at hf; omega)]
theorem setFs_B : ∀ {l : List Int} {x y : OpM}, (setFs l x y).b = if 66 ∈ l then x.b else y.b
  | [], _, _ => rfl
  | g :: l, x, y => by
    rw [setFs, setFs_B, setF_B']
    by_cases h1 : (66 : Int) ∈ l
    · rw [if_pos h1, if_pos (List.mem_cons_of_mem _ h1)]
    · rw [if_neg h1]
      by_cases h2 : g = 66
      · rw [if_pos h2, if_pos (by rw [h2]; exact List.mem_cons_self ..)]
      · rw [if_neg h2, if_neg (by simp only [List.mem_cons, not_or]; exact ⟨fun h => h2 h.symm, h1⟩)]
theorem setF_K' {f : Int} {x y : OpM} : (setF f x y).key = if f = 75 then x.key else y.key := by
  by_cases hf : Ltr f
  · unfold Ltr at hf
    rcases hf with rfl | rfl | rfl | rfl | rfl | rfl | rfl | rfl | rfl | rfl | rfl | rfl <;> rfl
  · rw [setF_no hf, if_neg (by unfold Ltr at hf; omega)]
theorem setFs_K : ∀ {l : List Int} {x y : OpM}, (setFs l x y).key = if 75 ∈ l then x.key else y.key
  | [], _, _ => rfl
  | g :: l, x, y => by
    rw [setFs, setFs_K, setF_K']
    by_cases h1 : (75 : Int) ∈ l
    · rw [if_pos h1, if_pos (List.mem_cons_of_mem _ h1)]
    · rw [if_neg h1]
      by_cases h2 : g = 75
      · rw [if_pos h2, if_pos (by rw [h2]; exact List.mem_cons_self ..)]
      · rw [if_neg h2, if_neg (by simp only [List.mem_cons, not_or]; exact ⟨fun h => h2 h.symm, h1⟩)]
theorem setF_V' {f : Int} {x y : OpM} : (setF f x y).val = if f = 86 then x.val else y.val := by
  by_cases hf : Ltr f
  · unfold Ltr at hf
    rcases hf with rfl | rfl | rfl | rfl | rfl | rfl | rfl | rfl | rfl | rfl | rfl | rfl <;> rfl
  · rw [setF_no hf, if_neg (by unfold Ltr at hf; omega)]
theorem setFs_V : ∀ {l : List Int} {x y : OpM}, (setFs l x y).val = if 86 ∈ l then x.val else y.val
  | [], _, _ => rfl
  | g :: l, x, y => by
    rw [setFs, setFs_V, setF_V']
    by_cases h1 : (86 : Int) ∈ l
    · rw [if_pos h1, if_pos (List.mem_cons_of_mem _ h1)]
    · rw [if_neg h1]
      by_cases h2 : g = 86
      · rw [if_pos h2, if_pos (by rw [h2]; exact List.mem_cons_self ..)]
      · rw [if_neg h2, if_neg (by simp only [List.mem_cons, not_or]; exact ⟨fun h => h2 h.symm, h1⟩)]
theorem setF_L' {f : Int} {x y : OpM} : (setF f x y).lo = if f = 76 then x.lo else y.lo := by
  by_cases hf : Ltr f
  · unfold Ltr at hf
    rcases hf with rfl | rfl | rfl | rfl | rfl | rfl | rfl | rfl | rfl | rfl | rfl | rfl <;> rfl
  · rw [setF_no hf, if_neg (by unfold Ltr at hf; omega)]
theorem setFs_L : ∀ {l : List Int} {x y : OpM}, (setFs l x y).lo = if 76 ∈ l then x.lo else y.lo
  | [], _, _ => rfl
  | g :: l, x, y => by
    rw [setFs, setFs_L, setF_L']
    by_cases h1 : (76 : Int) ∈ l
    · rw [if_pos h1, if_pos (List.mem_cons_of_mem _ h1)]
    · rw [if_neg h1]
      by_cases h2 : g = 76
      · rw [if_pos h2, if_pos (by rw [h2]; exact List.mem_cons_self ..)]
      · rw [if_neg h2, if_neg (by simp only [List.mem_cons, not_or]; exact ⟨fun h => h2 h.symm, h1⟩)]
theorem setF_H' {f : Int} {x y : OpM} : (setF f x y).hi = if f = 72 then x.hi else y.hi := by
  by_cases hf : Ltr f
  · unfold Ltr at hf
    rcases hf with rfl | rfl | rfl | rfl | rfl | rfl | rfl | rfl | rfl | rfl | rfl | rfl <;> rfl
  · rw [setF_no hf, if_neg (by unfold Ltr at hf; omega)]
theorem setFs_H : ∀ {l : List Int} {x y : OpM}, (setFs l x y).hi = if 72 ∈ l then x.hi else y.hi
  | [], _, _ => rfl
  | g :: l, x, y => by
    rw [setFs, setFs_H, setF_H']
    by_cases h1 : (72 : Int) ∈ l
    · rw [if_pos h1, if_pos (List.mem_cons_of_mem _ h1)]
    · rw [if_neg h1]
      by_cases h2 : g = 72
      · rw [if_pos h2, if_pos (by rw [h2]; exact List.mem_cons_self ..)]
      · rw [if_neg h2, if_neg (by simp only [List.mem_cons, not_or]; exact ⟨fun h => h2 h.symm, h1⟩)]
theorem setF_N' {f : Int} {x y : OpM} : (setF f x y).n = if f = 78 then x.n else y.n := by
  by_cases hf : Ltr f
  · unfold Ltr at hf
    rcases hf with rfl | rfl | rfl | rfl | rfl | rfl | rfl | rfl | rfl | rfl | rfl | rfl <;> rfl
  · rw [setF_no hf, if_neg (by unfold Ltr at hf; omega)]
theorem setFs_N : ∀ {l : List Int} {x y : OpM}, (setFs l x y).n = if 78 ∈ l then x.n else y.n
  | [], _, _ => rfl
  | g :: l, x, y => by
    rw [setFs, setFs_N, setF_N']
    by_cases h1 : (78 : Int) ∈ l
    · rw [if_pos h1, if_pos (List.mem_cons_of_mem _ h1)]
    · rw [if_neg h1]
      by_cases h2 : g = 78
      · rw [if_pos h2, if_pos (by rw [h2]; exact List.mem_cons_self ..)]
      · rw [if_neg h2, if_neg (by simp only [List.mem_cons, not_or]; exact ⟨fun h => h2 h.symm, h1⟩)]
theorem setF_F' {f : Int} {x y : OpM} : (setF f x y).flag = if f = 70 then x.flag else y.flag := by
  by_cases hf : Ltr f
  · unfold Ltr at hf
    rcases hf with rfl | rfl | rfl | rfl | rfl | rfl | rfl | rfl | rfl | rfl | rfl | rfl <;> rfl
  · rw [setF_no hf, if_neg (by unfold Ltr at hf; omega)]
theorem setFs_F : ∀ {l : List Int} {x y : OpM}, (setFs l x y).flag = if 70 ∈ l then x.flag else y.flag
  | [], _, _ => rfl
  | g :: l, x, y => by
    rw [setFs, setFs_F, setF_F']
    by_cases h1 : (70 : Int) ∈ l
    · rw [if_pos h1, if_pos (List.mem_cons_of_mem _ h1)]
    · rw [if_neg h1]
      by_cases h2 : g = 70
      · rw [if_pos h2, if_pos (by rw [h2]; exact List.mem_cons_self ..)]
      · rw [if_neg h2, if_neg (by simp only [List.mem_cons, not_or]; exact ⟨fun h => h2 h.symm, h1⟩)]
theorem setF_S' {f : Int} {x y : OpM} : (setF f x y).name = if f = 83 then x.name else y.name := by
  by_cases hf : Ltr f
  · unfold Ltr at hf
    rcases hf with rfl | rfl | rfl | rfl | rfl | rfl | rfl | rfl | rfl | rfl | rfl | rfl <;> rfl
  · rw [setF_no hf, if_neg (by unfold Ltr at hf; omega)]
theorem setFs_S : ∀ {l : List Int} {x y : OpM}, (setFs l x y).name = if 83 ∈ l then x.name else y.name
  | [], _, _ => rfl
  | g :: l, x, y => by
    rw [setFs, setFs_S, setF_S']
    by_cases h1 : (83 : Int) ∈ l
    · rw [if_pos h1, if_pos (List.mem_cons_of_mem _ h1)]
    · rw [if_neg h1]
      by_cases h2 : g = 83
      · rw [if_pos h2, if_pos (by rw [h2]; exact List.mem_cons_self ..)]
      · rw [if_neg h2, if_neg (by simp only [List.mem_cons, not_or]; exact ⟨fun h => h2 h.symm, h1⟩)]
theorem setF_Y' {f : Int} {x y : OpM} : (setF f x y).bytes = if f = 89 then x.bytes else y.bytes := by
  by_cases hf : Ltr f
  · unfold Ltr at hf
    rcases hf with rfl | rfl | rfl | rfl | rfl | rfl | rfl | rfl | rfl | rfl | rfl | rfl <;> rfl
  · rw [setF_no hf, if_neg (by unfold Ltr at hf; omega)]
theorem setFs_Y : ∀ {l : List Int} {x y : OpM}, (setFs l x y).bytes = if 89 ∈ l then x.bytes else y.bytes
  | [], _, _ => rfl
  | g :: l, x, y => by
    rw [setFs, setFs_Y, setF_Y']
    by_cases h1 : (89 : Int) ∈ l
    · rw [if_pos h1, if_pos (List.mem_cons_of_mem _ h1)]
    · rw [if_neg h1]
      by_cases h2 : g = 89
      · rw [if_pos h2, if_pos (by rw [h2]; exact List.mem_cons_self ..)]
      · rw [if_neg h2, if_neg (by simp only [List.mem_cons, not_or]; exact ⟨fun h => h2 h.symm, h1⟩)]
theorem setF_E' {f : Int} {x y : OpM} : (setF f x y).ents = if f = 69 then x.ents else y.ents := by
  by_cases hf : Ltr f
  · unfold Ltr at hf
    rcases hf with rfl | rfl | rfl | rfl | rfl | rfl | rfl | rfl | rfl | rfl | rfl | rfl <;> rfl
  · rw [setF_no hf, if_neg (by unfold Ltr at hf; omega)]
theorem setFs_E : ∀ {l : List Int} {x y : OpM}, (setFs l x y).ents = if 69 ∈ l then x.ents else y.ents
  | [], _, _ => rfl
  | g :: l, x, y => by
    rw [setFs, setFs_E, setF_E']
    by_cases h1 : (69 : Int) ∈ l
    · rw [if_pos h1, if_pos (List.mem_cons_of_mem _ h1)]
    · rw [if_neg h1]
      by_cases h2 : g = 69
      · rw [if_pos h2, if_pos (by rw [h2]; exact List.mem_cons_self ..)]
      · rw [if_neg h2, if_neg (by simp only [List.mem_cons, not_or]; exact ⟨fun h => h2 h.symm, h1⟩)]
theorem setF_C' {f : Int} {x y : OpM} : (setF f x y).chs = if f = 67 then x.chs else y.chs := by
  by_cases hf : Ltr f
  · unfold Ltr at hf
    rcases hf with rfl | rfl | rfl | rfl | rfl | rfl | rfl | rfl | rfl | rfl | rfl | rfl <;> rfl
  · rw [setF_no hf, if_neg (by unfold Ltr at hf; omega)]
theorem setFs_C : ∀ {l : List Int} {x y : OpM}, (setFs l x y).chs = if 67 ∈ l then x.chs else y.chs
  | [], _, _ => rfl
  | g :: l, x, y => by
    rw [setFs, setFs_C, setF_C']
    by_cases h1 : (67 : Int) ∈ l
    · rw [if_pos h1, if_pos (List.mem_cons_of_mem _ h1)]
    · rw [if_neg h1]
      by_cases h2 : g = 67
      · rw [if_pos h2, if_pos (by rw [h2]; exact List.mem_cons_self ..)]
      · rw [if_neg h2, if_neg (by simp only [List.mem_cons, not_or]; exact ⟨fun h => h2 h.symm, h1⟩)]
theorem only_iff (x : OpM) : x = only x ↔ zeroOp x := by
  have e : ∀ {α : Type} {p : Prop} [Decidable p] {v z : α}, (v = if p then v else z) ↔ (¬ p → v = z) := fun {α p _ v z} => by
    by_cases h : p <;> simp [h]
  have key : x = only x ↔ (x.code = (only x).code ∧ x.a = (only x).a ∧ x.b = (only x).b ∧ x.key = (only x).key ∧ x.val = (only x).val ∧ x.lo = (only x).lo ∧ x.hi = (only x).hi ∧ x.n = (only x).n ∧ x.flag = (only x).flag ∧ x.name = (only x).name ∧ x.bytes = (only x).bytes ∧ x.ents = (only x).ents ∧ x.chs = (only x).chs) :=
    ⟨fun h => by rw [← h]; exact ⟨rfl, rfl, rfl, rfl, rfl, rfl, rfl, rfl, rfl, rfl, rfl, rfl, rfl⟩, OpM.ext'⟩
  rw [key]
  unfold only zeroOp
  rw [setFs_code, setFs_A, setFs_B, setFs_K, setFs_V, setFs_L, setFs_H, setFs_N, setFs_F, setFs_S, setFs_Y, setFs_E, setFs_C]
  simp only [e, op0, true_and, List.length_eq_zero_iff]
theorem ok_iff (x : OpM) : okOp x ↔ okOp2 x := by
  unfold okOp okOp2
  rw [only_iff]
  constructor
  · rintro ⟨h1, h2, h3, h4⟩; exact ⟨h1, h4, h2, h3⟩
  · rintro ⟨h1, h4, h2, h3⟩; exact ⟨h1, h2, h3, h4⟩
/-- the sizes of the laws -/
def smallOp (x : OpM) : Prop := x.name.size ≤ 300 ∧ x.bytes.length ≤ 300 ∧ x.ents.length ≤ 100 ∧ x.chs.length ≤ 100
instance (x : OpM) : Decidable (smallOp x) := by unfold smallOp; infer_instance
def kind256 (l : List (Int × Int × Int × Int)) : List (Int × Int × Int × Int) := l.map fun c => (c.1 % 256, c.2)
def tidy0 (x : OpM) : OpM := { x with code := 1 + x.code % 35, n := x.n % 2147483648, name := mkS ((sb x.name).take (min x.name.size 32)), chs := kind256 x.chs }
def tidy (x : OpM) : OpM := only (tidy0 x)
/-- the example of the chapter -/
def exOp : OpM := { op0 3 with a := 300, key := -1, val := 2 }
theorem exOp_ok : okOp exOp := by
  refine ⟨rfl, ⟨by decide, by decide, by decide, by decide, by decide⟩, fun _ h => (by cases h), ?_⟩
  exact ⟨by decide, fun _ => rfl, by decide, by decide, fun _ => rfl, fun _ => rfl, fun _ => rfl, fun _ => rfl, fun _ => rfl, fun _ => rfl, fun _ => rfl, fun _ => rfl⟩
theorem exOp_w : OpW exOp := by
  refine ⟨by decide, by decide, ?_, ?_, ?_, ?_, fun _ h => (by cases h), fun _ h => (by cases h)⟩ <;> (unfold I64; decide)
theorem exOp_enc : eOp exOp = [3, 172, 2, 1, 4] := by
  have h1 : fs exOp.code = [65, 75, 86] := rfl
  have h2 : exOp.code % 256 = 3 := rfl
  have e1 : eU exOp.a = [172, 2] := by show varint 300 = _; rw [varint_ge (by decide), varint_lt (by decide)]; rfl
  have e2 : eZ exOp.key = [1] := by show varint 1 = _; rw [varint_lt (by decide)]; rfl
  have e3 : eZ exOp.val = [4] := by show varint 4 = _; rw [varint_lt (by decide)]; rfl
  rw [eOp, h1, h2]
  simp only [List.flatMap_cons, List.flatMap_nil, eField_A, eField_K, eField_V, e1, e2, e3]
  rfl
theorem op1_ok : okOp (op0 1) := by
  refine ⟨rfl, ⟨by decide, by decide, by decide, by decide, by decide⟩, fun _ h => (by cases h), ?_⟩
  exact ⟨fun _ => rfl, fun _ => rfl, fun _ => rfl, fun _ => rfl, fun _ => rfl, fun _ => rfl, fun _ => rfl, fun _ => rfl, fun _ => rfl, fun _ => rfl, fun _ => rfl, fun _ => rfl⟩
theorem op0_no : ¬ okOp (op0 0) := fun h => by cases h.1
/-- an operation's numbers lie in their kinds -/
structure OpT (x : OpM) : Prop where
  w : OpW x
  code : I64 x.code
  n : I64 x.n
  by_ : B8 x.bytes
theorem kind_at {l : List (Int × Int × Int × Int)} {k : Nat} (h : k < l.length) : (kind256 (l.take k) ++ l.drop k)[k]? = l[k]? := by
  have h1 : (kind256 (l.take k)).length = k := by simp [kind256]; omega
  rw [List.getElem?_append_right (by omega), h1, List.getElem?_drop]; simp
theorem kind_set {l : List (Int × Int × Int × Int)} {k : Nat} {c : Int × Int × Int × Int} (h : l[k]? = some c) : (kind256 (l.take k) ++ l.drop k).set k (c.1 % 256, c.2.1, c.2.2.1, c.2.2.2) = kind256 (l.take (k + 1)) ++ l.drop (k + 1) := by
  have hk := (List.getElem?_eq_some_iff.1 h).1
  have h1 : (kind256 (l.take k)).length = k := by simp [kind256]; omega
  rw [List.set_append_right _ _ (by omega), h1, Nat.sub_self, List.drop_eq_getElem_cons hk, List.set_cons_zero, List.take_add_one, h]
  simp [kind256]
theorem op0_T {c : Int} (h : I64 c) : OpT (op0 c) := by
  have h0 : I64 0 := by unfold I64; omega
  exact ⟨⟨by simp [op0], by simp [op0], h0, h0, h0, h0, fun _ h => (by cases h), fun _ h => (by cases h)⟩, h, h0, fun _ h => (by cases h)⟩
theorem setF_T {f : Int} {x y : OpM} (hx : OpT x) (hy : OpT y) : OpT (setF f x y) := by
  by_cases hf : Ltr f
  · obtain ⟨⟨a1, a2, a3, a4, a5, a6, a7, a8⟩, a9, a10, a11⟩ := hx
    obtain ⟨⟨b1, b2, b3, b4, b5, b6, b7, b8⟩, b9, b10, b11⟩ := hy
    unfold Ltr at hf
    rcases hf with rfl | rfl | rfl | rfl | rfl | rfl | rfl | rfl | rfl | rfl | rfl | rfl
    · exact ⟨⟨a1, b2, b3, b4, b5, b6, b7, b8⟩, b9, b10, b11⟩
    · exact ⟨⟨b1, a2, b3, b4, b5, b6, b7, b8⟩, b9, b10, b11⟩
    · exact ⟨⟨b1, b2, a3, b4, b5, b6, b7, b8⟩, b9, b10, b11⟩
    · exact ⟨⟨b1, b2, b3, a4, b5, b6, b7, b8⟩, b9, b10, b11⟩
    · exact ⟨⟨b1, b2, b3, b4, a5, b6, b7, b8⟩, b9, b10, b11⟩
    · exact ⟨⟨b1, b2, b3, b4, b5, a6, b7, b8⟩, b9, b10, b11⟩
    · exact ⟨⟨b1, b2, b3, b4, b5, b6, b7, b8⟩, b9, a10, b11⟩
    · exact ⟨⟨b1, b2, b3, b4, b5, b6, b7, b8⟩, b9, b10, b11⟩
    · exact ⟨⟨b1, b2, b3, b4, b5, b6, b7, b8⟩, b9, b10, b11⟩
    · exact ⟨⟨b1, b2, b3, b4, b5, b6, b7, b8⟩, b9, b10, a11⟩
    · exact ⟨⟨b1, b2, b3, b4, b5, b6, a7, b8⟩, b9, b10, b11⟩
    · exact ⟨⟨b1, b2, b3, b4, b5, b6, b7, a8⟩, b9, b10, b11⟩
  · rw [setF_no hf]; exact hy
theorem setFs_T : ∀ {l : List Int} {x y : OpM}, OpT x → OpT y → OpT (setFs l x y)
  | [], _, _, _, hy => hy
  | f :: l, x, y, hx, hy => setFs_T (l := l) (x := x) (y := setF f x y) hx (setF_T hx hy)
theorem only_T {x : OpM} (h : OpT x) : OpT (only x) := setFs_T h (op0_T h.code)
theorem sb_take_B8 {s : ByteArray} {k : Nat} : B8 ((sb s).take k) := fun x hx => sb_B8 s x (List.mem_of_mem_take hx)
theorem tidy0_T {x : OpM} (h : OpT x) : OpT (tidy0 x) := by
  obtain ⟨⟨a1, a2, a3, a4, a5, a6, a7, a8⟩, a9, a10, a11⟩ := h
  refine ⟨⟨a1, a2, a3, a4, a5, a6, a7, fun c hc => ?_⟩, ?_, ?_, a11⟩
  · obtain ⟨d, hd, rfl⟩ := List.mem_map.1 hc
    have := a8 d hd
    refine ⟨?_, this.2⟩
    have h1 : d.1 % 256 < 256 := Int.emod_lt_of_pos _ (by decide)
    have h2 : 0 ≤ d.1 % 256 := Int.emod_nonneg _ (by decide)
    unfold I64; simp only; omega
  · unfold I64 tidy0; simp only; omega
  · unfold I64 tidy0; simp only; omega
theorem tidy_T {x : OpM} (h : OpT x) : OpT (tidy x) := only_T (tidy0_T h)
theorem only_small {x : OpM} : (only x).ents.length ≤ x.ents.length ∧ (only x).chs.length ≤ x.chs.length ∧ (only x).bytes.length ≤ x.bytes.length := by
  unfold only
  rw [setFs_E, setFs_C, setFs_Y]
  refine ⟨?_, ?_, ?_⟩ <;> split <;> simp [op0]
/-- few entries and changes -/
def fewOp (x : OpM) : Prop := x.ents.length ≤ 100 ∧ x.chs.length ≤ 100
theorem tidy_few {x : OpM} (h : smallOp x) : fewOp (tidy x) := by
  have h1 := only_small (x := tidy0 x)
  have h2 : (tidy0 x).ents = x.ents := rfl
  have h3 : (tidy0 x).chs.length = x.chs.length := by simp [tidy0, kind256]
  unfold smallOp at h
  rw [h2, h3] at h1
  unfold fewOp tidy
  omega
/-- an operation in memory -/
structure OpZ where
  m : OpM
  ab : Option Addr
  ae : Option Addr
  ac : Option Addr
  cb : Nat
  ce : Nat
  cc : Nat
def opC (z : OpZ) : List Value := [.int .i64 z.m.code, .int .u64 z.m.a, .int .u64 z.m.b, .int .i64 z.m.key, .int .i64 z.m.val, .int .i64 z.m.lo, .int .i64 z.m.hi, .int .i64 z.m.n, .bool z.m.flag, .string z.m.name, .slice z.ab (by8 z.m.bytes).length z.cb, .slice z.ae (en2 z.m.ents).length z.ce, .slice z.ac (ch4 z.m.chs).length z.cc]
def enOp (zs : List OpZ) : List (List Value) := zs.map opC
@[simp] theorem enOp_len (l : List OpZ) : (enOp l).length = l.length := by simp [enOp]
theorem enOp_at {l : List OpZ} {k : Nat} {z : OpZ} (h : l[k]? = some z) : (enOp l)[k]? = some (opC z) := by simp [enOp, h]
theorem enOp_ok (l : List OpZ) : OkE 13 (enOp l) := fun x hx => by
  obtain ⟨z, _, rfl⟩ := List.mem_map.1 hx
  refine ⟨rfl, fun u hu => ?_⟩
  simp only [opC, List.mem_cons, List.not_mem_nil, or_false] at hu
  rcases hu with rfl | rfl | rfl | rfl | rfl | rfl | rfl | rfl | rfl | rfl | rfl | rfl | rfl <;> rfl
def opF (z : OpZ) : List HP := [Sh 5 1 (by8 z.m.bytes) z.ab z.cb, Sh 40 2 (en2 z.m.ents) z.ae z.ce, Sh 63 4 (ch4 z.m.chs) z.ac z.cc]
theorem opF_sht (z : OpZ) : ∀ A ∈ opF z, Sht A := fun A hA => by
  simp only [opF, List.mem_cons, List.not_mem_nil, or_false] at hA
  rcases hA with rfl | rfl | rfl <;> exact Sht.sh
theorem eOp_len {x : OpM} (h : OpW x) (k : OpL x) : (eOp x).length ≤ 400000 := by
  have h1 := fm_len (f := fun f => eField f x) (m := 65546) (l := fs x.code) (fun f _ => eField_len h k)
  have h2 := fs_len x.code
  rw [eOp, List.length_cons]
  omega
theorem v_cond {x : OpM} {b1 b2 b3 : Bool} {ys bs : List Int} (h1 : b1 = true ↔ okOp2 x) (h2 : b2 = true ↔ okOp x) (h3 : ys = if b2 then bs ++ eOp x else []) (h4 : b3 = true ↔ okOp x) :
    ¬ (((¬ ((b3 == b1) = true)) ∨ (¬ (((decide ((if b2 then (0 : Int) else 1) = 0)) == b1) = true))) ∨ ((¬ (b1 = true)) ∧ (((if b2 then (0 : Int) else 1) ≠ 1) ∨ ((List.length (by8 ys) : Int) ≠ 0)))) := by
  obtain rfl : b1 = b2 := by rw [Bool.eq_iff_iff, h1, h2]; exact (ok_iff x).symm
  obtain rfl : b3 = b1 := by rw [Bool.eq_iff_iff, h4, h2]
  cases b3 <;> simp [h3]
theorem v_len {x : OpM} {b2 : Bool} {ys bs : List Int} (hw : OpW x) (h2 : b2 = true ↔ okOp x) (h3 : ys = if b2 then bs ++ eOp x else []) (hb : bs.length ≤ 100) : ys.length ≤ 500000 := by
  subst h3
  cases b2 with
  | false => simp
  | true =>
    have := eOp_len hw (h2.1 rfl).2.1
    simp only [if_true, List.length_append]; omega
end Go.V
