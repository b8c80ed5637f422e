/-
  The engine, first part, no program: frames as functions of slots, a reflective evaluator for operations that only compute or read known cells, the judgement on code.
  Conditions: none; every fact is proved from the library's own definitions.
-/
import Derived.WalkKit
import Derived.Test.YtenkmjbghbegfaaDoorPlan
namespace Go.V
open Go

/-! ### frames -/
abbrev Fm := Nat → Value
def upd (F : Fm) (d : Nat) (v : Value) : Fm := fun t => bif Nat.beq t d then v else F t
def updo (F : Fm) (d : Option Nat) (v : Value) : Fm := match d with | none => F | some d => upd F d v
def act (n : Nat) (F : Fm) : Act := ⟨Array.ofFn (fun i : Fin n => F i.val), []⟩
def ev (F : Fm) (x : Operand) : Value := match x with
  | .tmp t => F t
  | .const v => v
  | .global g => .pointer (some ⟨g, 0, none⟩)
  | .func f => .func (.func f) #[] #[]
def okX (n : Nat) (x : Operand) : Bool := match x with | .tmp t => Nat.blt t n | _ => true
def okD (n : Nat) (d : Option Nat) : Bool := match d with | some t => Nat.blt t n | none => true
def okO (n : Nat) (o : Oper) : Bool := o.op.operands.toList.all (okX n) && okD n o.dst
def okL (n : Nat) : List Oper → Bool | [] => true | o :: r => okO n o && okL n r
def okC (n : Nat) : Code → Bool
  | .region _ ops _ => okL n ops.toList
  | .seq a b => okC n a && okC n b
  | .cond c a b => okX n c && okC n a && okC n b
  | .block _ c => okC n c
  | .loop c => okC n c
  | _ => true

theorem blt_iff {a b : Nat} : Nat.blt a b = true ↔ a < b := by unfold Nat.blt; rw [Nat.ble_eq]; exact Iff.rfl
theorem act_size (n : Nat) (F : Fm) : (act n F).tmps.size = n := by simp [act]
theorem act_get (n : Nat) (F : Fm) (t : Nat) (h : t < n) : (act n F).tmps.getD t undef = F t := by
  simp [act, h]
theorem act_get? (n : Nat) (F : Fm) (t : Nat) (h : t < n) : (act n F).tmps[t]? = some (F t) := by
  simp [act, h]
theorem act_eval {n : Nat} {F : Fm} {x : Operand} (h : okX n x = true) : (act n F).eval x = ev F x := by
  cases x with
  | tmp t => exact act_get n F t (blt_iff.1 h)
  | const v => rfl
  | global g => rfl
  | func f => rfl
theorem act_put (n : Nat) (F : Fm) (d : Option Nat) (v : Value) : (act n F).put d v = act n (updo F d v) := by
  cases d with
  | none => rfl
  | some d =>
    simp only [Act.put, act, updo, Act.mk.injEq, and_true]
    apply Array.ext
    · simp
    · intro i h1 h2
      simp only [Array.size_ofFn] at h2
      by_cases hd : d = i
      · subst hd
        simp [upd]
      · have hb : Nat.beq i d = false := by
          cases hq : Nat.beq i d with
          | true => exact absurd (Nat.eq_of_beq_eq_true hq).symm hd
          | false => rfl
        rw [Array.getElem_setIfInBounds_ne (by simpa using h2) hd]
        simp [upd, hb]
theorem upd_self (F : Fm) (d : Nat) : upd F d (F d) = F := by
  funext t
  unfold upd
  cases h : Nat.beq t d with
  | true => simp [Nat.eq_of_beq_eq_true h]
  | false => rfl
theorem rebase {F : Fm} {d : Nat} {v : Value} (h : F d = v) : upd F d v = F := by subst h; exact upd_self F d

/-! ### the table of types and the evaluator of one operation -/
structure Tab where
  ints : List (Nat × IntKind)
  strs : List Nat
  bools : List Nat
  ptrs : List Nat
  slices : List Nat
  /-- struct types: for each field the offset, the size in cells, whether it is a struct or an array -/
  flds : List (Nat × List (Nat × Nat × Bool))
  /-- types of one cell -/
  ones : List Nat
def lk {α : Type} : List (Nat × α) → Nat → Option α
  | [], _ => none
  | (t, a) :: r, x => bif Nat.beq x t then some a else lk r x
def mem : List Nat → Nat → Bool
  | [], _ => false
  | t :: r, x => bif Nat.beq x t then true else mem r x
def nth {α : Type} : List α → Nat → Option α
  | [], _ => none
  | a :: _, 0 => some a
  | _ :: r, n + 1 => nth r n
theorem nth_eq {α : Type} : ∀ (l : List α) (i : Nat), nth l i = l[i]?
  | [], _ => by simp [nth]
  | a :: _, 0 => by simp [nth]
  | a :: r, n + 1 => by simp [nth, nth_eq r n]
def Tab.fld (T : Tab) (t f : Nat) : Option (Nat × Nat × Bool) := match lk T.flds t with | some l => nth l f | none => none

def isAggB (P : Program) (t : Nat) : Bool := match P.underlying t with | some (.struct _) => true | some (.array _ _) => true | _ => false
def fieldB (P : Program) (t f : Nat) (r : Nat × Nat × Bool) : Bool := match P.underlying t with
  | some (.struct fs) => match fs[f]? with
    | some fd => fd.offset == r.1 && (match P.info? fd.type with | some i => i.size == r.2.1 | none => false) && isAggB P fd.type == r.2.2 && (P.underlying fd.type).isSome && r.2.1 != 0
    | none => false
  | _ => false
def idxAll {α : Type} (p : Nat → α → Bool) : Nat → List α → Bool
  | _, [] => true
  | k, a :: r => p k a && idxAll p (k + 1) r
def Tab.chk (P : Program) (T : Tab) : Bool :=
  T.ints.all (fun x => match P.underlying x.1 with | some (.int k) => decide (k = x.2) | _ => false) &&
  T.strs.all (fun t => match P.underlying t with | some .string => true | _ => false) &&
  T.bools.all (fun t => match P.underlying t with | some .bool => true | _ => false) &&
  T.ptrs.all (fun t => match P.underlying t with | some (.pointer _) => true | _ => false) &&
  T.slices.all (fun t => match P.underlying t with | some (.slice _) => true | _ => false) &&
  T.flds.all (fun x => idxAll (fun f r => fieldB P x.1 f r) 0 x.2) &&
  T.flds.all (fun x => match P.underlying x.1 with | some (.struct fs) => fs.size == x.2.length | _ => false) &&
  T.ones.all (fun t => (P.underlying t).isSome && !isAggB P t && (match P.info? t with | some i => i.size == 1 | none => false))
class TabOk (P : Program) (T : outParam Tab) : Prop where
  chk : T.chk P = true

theorem lk_mem {α : Type} : ∀ (l : List (Nat × α)) (x : Nat) (a : α), lk l x = some a → (x, a) ∈ l
  | [], _, _, h => by simp [lk] at h
  | (t, b) :: r, x, a, h => by
    unfold lk at h
    cases hb : Nat.beq x t with
    | true =>
      simp [hb] at h
      have := Nat.eq_of_beq_eq_true hb
      subst this; subst h
      exact List.mem_cons_self
    | false =>
      simp [hb] at h
      exact List.mem_cons_of_mem _ (lk_mem r x a h)
theorem mem_mem : ∀ (l : List Nat) (x : Nat), mem l x = true → x ∈ l
  | [], _, h => by simp [mem] at h
  | t :: r, x, h => by
    unfold mem at h
    cases hb : Nat.beq x t with
    | true => rw [Nat.eq_of_beq_eq_true hb]; exact List.mem_cons_self
    | false => simp [hb] at h; exact List.mem_cons_of_mem _ (mem_mem r x h)
theorem idxAll_spec {α : Type} {p : Nat → α → Bool} : ∀ (l : List α) (k : Nat), idxAll p k l = true → ∀ i a, l[i]? = some a → p (k + i) a = true
  | [], _, _, i, a, hi => by simp at hi
  | b :: r, k, h, i, a, hi => by
    simp only [idxAll, Bool.and_eq_true] at h
    cases i with
    | zero => simp at hi; subst hi; simpa using h.1
    | succ i => simp at hi; have := idxAll_spec r (k + 1) h.2 i a hi; rw [show k + (i + 1) = k + 1 + i by omega]; exact this

section tab
variable {P : Program} {T : Tab} [hT : TabOk P T]
theorem Tab.parts : (∀ x ∈ T.ints, P.underlying x.1 = some (.int x.2)) ∧ (∀ t ∈ T.strs, P.underlying t = some .string) ∧ (∀ t ∈ T.bools, P.underlying t = some .bool) ∧
    (∀ t ∈ T.ptrs, ∃ e, P.underlying t = some (.pointer e)) ∧ (∀ t ∈ T.slices, ∃ e, P.underlying t = some (.slice e)) ∧
    (∀ x ∈ T.flds, idxAll (fun f r => fieldB P x.1 f r) 0 x.2 = true ∧ ∃ fs, P.underlying x.1 = some (.struct fs) ∧ fs.size = x.2.length) ∧
    (∀ t ∈ T.ones, (P.underlying t).isSome = true ∧ isAggB P t = false ∧ ∃ i, P.info? t = some i ∧ i.size = 1) := by
  have h := hT.chk
  simp only [Tab.chk, Bool.and_eq_true, List.all_eq_true] at h
  obtain ⟨⟨⟨⟨⟨⟨⟨h1, h2⟩, h3⟩, h4⟩, h5⟩, h6⟩, h6'⟩, h7⟩ := h
  refine ⟨fun x hx => ?_, fun x hx => ?_, fun x hx => ?_, fun x hx => ?_, fun x hx => ?_, fun x hx => ⟨h6 x hx, ?_⟩, fun x hx => ?_⟩
  · have := h1 x hx; split at this <;> simp_all
  · have := h2 x hx; split at this <;> simp_all
  · have := h3 x hx; split at this <;> simp_all
  · have := h4 x hx; split at this <;> simp_all
  · have := h5 x hx; split at this <;> simp_all
  · have := h6' x hx
    split at this
    · rename_i fs hfs; exact ⟨fs, hfs, by simpa using this⟩
    · cases this
  · have := h7 x hx
    obtain ⟨⟨a, b⟩, c⟩ := this
    refine ⟨a, by simpa using b, ?_⟩
    split at c
    · rename_i i hi; exact ⟨i, hi, by simpa using c⟩
    · cases c
theorem Tab.int {t : Nat} {k : IntKind} (h : lk T.ints t = some k) : P.underlying t = some (.int k) := (Tab.parts (P := P) (T := T)).1 _ (lk_mem _ _ _ h)
theorem Tab.str {t : Nat} (h : mem T.strs t = true) : P.underlying t = some .string := (Tab.parts (P := P) (T := T)).2.1 _ (mem_mem _ _ h)
theorem Tab.bool_ {t : Nat} (h : mem T.bools t = true) : P.underlying t = some .bool := (Tab.parts (P := P) (T := T)).2.2.1 _ (mem_mem _ _ h)
theorem Tab.ptr {t : Nat} (h : mem T.ptrs t = true) : ∃ e, P.underlying t = some (.pointer e) := (Tab.parts (P := P) (T := T)).2.2.2.1 _ (mem_mem _ _ h)
theorem Tab.slice_ {t : Nat} (h : mem T.slices t = true) : ∃ e, P.underlying t = some (.slice e) := (Tab.parts (P := P) (T := T)).2.2.2.2.1 _ (mem_mem _ _ h)
theorem Tab.field_ {t f : Nat} {r : Nat × Nat × Bool} (h : T.fld t f = some r) :
    ∃ fs fd, P.underlying t = some (.struct fs) ∧ fs[f]? = some fd ∧ fd.offset = r.1 ∧ (∃ i, P.info? fd.type = some i ∧ i.size = r.2.1) ∧ isAggB P fd.type = r.2.2 ∧ (P.underlying fd.type).isSome = true ∧ r.2.1 ≠ 0 := by
  unfold Tab.fld at h
  cases hl : lk T.flds t with
  | none => simp [hl] at h
  | some l =>
    simp only [hl, nth_eq] at h
    have h1 := ((Tab.parts (P := P) (T := T)).2.2.2.2.2.1 _ (lk_mem _ _ _ hl)).1
    have h2 := idxAll_spec l 0 h1 f r h
    simp only [Nat.zero_add, fieldB] at h2
    split at h2
    · rename_i fs hfs
      split at h2
      · rename_i fd hfd
        simp only [Bool.and_eq_true, beq_iff_eq, bne_iff_ne, ne_eq] at h2
        obtain ⟨⟨⟨⟨a, b⟩, c⟩, d⟩, e⟩ := h2
        refine ⟨fs, fd, hfs, hfd, a, ?_, c, d, e⟩
        split at b
        · rename_i i hi; exact ⟨i, hi, by simpa using b⟩
        · cases b
      · cases h2
    · cases h2
theorem Tab.one {t : Nat} (h : mem T.ones t = true) : (P.underlying t).isSome = true ∧ isAggB P t = false ∧ ∃ i, P.info? t = some i ∧ i.size = 1 := (Tab.parts (P := P) (T := T)).2.2.2.2.2.2 _ (mem_mem _ _ h)
end tab

/-- the value, its head laid open -/
def frc (v : Value) : Option Value := match v with
  | .bool b => some (.bool b)
  | .int k n => some (.int k n)
  | .float k b => some (.float k b)
  | .complex k a b => some (.complex k a b)
  | .string s => some (.string s)
  | .pointer a => some (.pointer a)
  | .slice a n c => some (.slice a n c)
  | .map r => some (.map r)
  | .chan r => some (.chan r)
  | .func f a b => some (.func f a b)
  | .nilFunc => some .nilFunc
  | .iface t v => some (.iface t v)
  | .nilIface => some .nilIface
  | .agg cs => some (.agg cs)
  | .tuple vs => some (.tuple vs)
theorem frc_eq (v : Value) : frc v = some v := by cases v <;> rfl

/-- 2 to the power of a shift -/
def p2 (k : IntKind) (m : Nat) : Int := 2 ^ (min m k.bits)
/-- the bits of two numbers -/
def bts (op : BinOp) (k : IntKind) (a b : Int) : Int := match op with
  | .and => k.wrap ((BitVec.ofInt k.bits a &&& BitVec.ofInt k.bits b).toNat : Int)
  | .or => k.wrap ((BitVec.ofInt k.bits a ||| BitVec.ofInt k.bits b).toNat : Int)
  | .xor => k.wrap ((BitVec.ofInt k.bits a ^^^ BitVec.ofInt k.bits b).toNat : Int)
  | .andNot => k.wrap ((BitVec.ofInt k.bits a &&& ~~~BitVec.ofInt k.bits b).toNat : Int)
  | _ => 0
def binI (op : BinOp) (k : IntKind) (a b : Int) : Option Value := match op with
  | .add => some (.int k (k.wrap (a + b)))
  | .sub => some (.int k (k.wrap (a - b)))
  | .mul => some (.int k (k.wrap (a * b)))
  | .quo => match b with | .ofNat (m + 1) => some (.int k (k.wrap (a.tdiv (.ofNat (m + 1))))) | _ => none
  | .rem => match b with | .ofNat (m + 1) => some (.int k (a.tmod (.ofNat (m + 1)))) | _ => none
  | .and => some (.int k (bts .and k a b))
  | .or => some (.int k (bts .or k a b))
  | .xor => some (.int k (bts .xor k a b))
  | .andNot => some (.int k (bts .andNot k a b))
  | .eql => some (.bool (decide (a = b)))
  | .neq => some (.bool (decide (a ≠ b)))
  | .lss => some (.bool (decide (a < b)))
  | .leq => some (.bool (decide (a ≤ b)))
  | .gtr => some (.bool (decide (b < a)))
  | .geq => some (.bool (decide (b ≤ a)))
  | _ => none
def shfI (op : BinOp) (k : IntKind) (a b : Int) : Option Value := match op, b with
  | .shl, .ofNat m => some (.int k (k.wrap (a * p2 k m)))
  | .shr, .ofNat m => some (.int k (a / p2 k m))
  | _, _ => none
def isShf (op : BinOp) : Bool := match op with | .shl => true | .shr => true | _ => false
def binS (op : BinOp) (a b : ByteArray) : Option Value := match op with
  | .eql => some (.bool (decide (a = b)))
  | .neq => some (.bool (decide (a ≠ b)))
  | .lss => some (.bool (Op.bytesLess a.toList b.toList))
  | .geq => some (.bool (!Op.bytesLess a.toList b.toList))
  | _ => none
def binV (T : Tab) (op : BinOp) (t : Nat) (x y : Value) : Option Value := match x, y with
  | .int k a, .int k' b => bif isShf op then shfI op k a b else bif decide (k = k') then binI op k a b else none
  | .string a, .string b => binS op a b
  | .bool a, .bool b => bif mem T.bools t then (match op with | .eql => some (.bool (a == b)) | .neq => some (.bool (!(a == b))) | _ => none) else none
  | .pointer a, .pointer none => bif mem T.ptrs t then (match op with | .eql => some (.bool a.isNone) | .neq => some (.bool (!a.isNone)) | _ => none) else none
  | _, _ => none
def unV (op : UnOp) (x : Value) : Option Value := match op, x with
  | .neg, .int k n => some (.int k (k.wrap (0 - n)))
  | .xor, .int k n => some (.int k (bts .xor k (if k.signed then -1 else k.max) n))
  | .not, .bool b => some (.bool (!b))
  | _, _ => none
def cutL : List Value → Nat → Nat → List Value
  | _, _, 0 => []
  | [], _, _ + 1 => []
  | a :: r, 0, n + 1 => a :: cutL r 0 n
  | _ :: r, k + 1, n + 1 => cutL r k (n + 1)
theorem cutL_eq : ∀ (l : List Value) (k n : Nat), cutL l k n = (l.drop k).take n
  | _, _, 0 => by simp [cutL]
  | [], _, _ + 1 => by simp [cutL]
  | a :: r, 0, n + 1 => by simp [cutL, cutL_eq r 0 n]
  | a :: r, k + 1, n + 1 => by simp [cutL, cutL_eq r k (n + 1)]
def partV (f : Nat × Nat × Bool) (cs : List Value) : Option Value :=
  bif f.2.2 then some (.agg (cutL cs f.1 f.2.1).toArray) else (match nth cs f.1 with | some v => frc v | none => none)
def lenV (T : Tab) (t : Nat) (x : Value) : Option Value := match x with
  | .slice _ n _ => bif mem T.slices t then some (.int .i64 n) else none
  | .string s => bif mem T.strs t then some (.int .i64 s.size) else none
  | _ => none
def mmV (mx : Bool) (xs : List Value) : Option Value := match xs with
  | [.int k a, .int _ b] => some (.int k (bif mx then max a b else min a b))
  | _ => none
def pv (T : Tab) (o : Oper) (F : Fm) : Option Value := match o.op with
  | .move x => frc (ev F x)
  | .assign x => frc (ev F x)
  | .pick c a b => match ev F c with | .bool true => frc (ev F a) | .bool false => frc (ev F b) | _ => none
  | .nilCheck x => match ev F x with | .pointer (some a) => some (.pointer (some a)) | _ => none
  | .binOp op t x y _ => binV T op t (ev F x) (ev F y)
  | .unOp op _ x => unV op (ev F x)
  | .convert s d x => match ev F x with
    | .int _ n => match lk T.ints d with | some k => (match lk T.ints s with | some _ => some (.int k (k.wrap n)) | none => none) | none => none
    | .string b => bif mem T.strs d && mem T.strs s then some (.string b) else none
    | _ => none
  | .extract t i => match ev F t with | .tuple vs => (match nth vs.toList i with | some v => frc v | none => none) | _ => none
  | .field t x f => match ev F x with | .agg cs => (match T.fld t f with | some r => partV r cs.toList | none => none) | _ => none
  | .fieldAddr t x f => match ev F x with
    | .pointer (some ⟨b, off, none⟩) => (match T.fld t f with | some r => some (.pointer (some ⟨b, off + r.1, none⟩)) | none => none)
    | _ => none
  | .call c => match c.callee, c.args.toList, c.argTypes.toList with
    | .builtin .len, [x], [t] => lenV T t (ev F x)
    | .builtin .min, [x, y], _ => mmV false [ev F x, ev F y]
    | .builtin .max, [x, y], _ => mmV true [ev F x, ev F y]
    | _, _, _ => none
  | _ => none

/-- the world takes no part: the operation yields v and leaves the world -/
def Yl (P : Program) (n : Nat) (o : Oper) (F : Fm) (v : Value) : Prop := ∀ w, (execOp (act n F).eval o).run P w = .ok (.value v) w


section pv
variable {P : Program} {T : Tab} [hT : TabOk P T] {n : Nat} {F : Fm}

theorem okX_of {o : Oper} {x : Operand} (h : okO n o = true) (hx : x ∈ o.op.operands.toList) : (act n F).eval x = ev F x := by
  simp only [okO, Bool.and_eq_true, List.all_eq_true] at h
  exact act_eval (h.1 x hx)

theorem run_isAgg {t : Nat} (w : World) (hs : (P.underlying t).isSome = true) : (isAgg t).run P w = .ok (isAggB P t) w := by
  obtain ⟨d, hd⟩ := Option.isSome_iff_exists.1 hs
  unfold isAggB
  simp only [isAgg, Sem.run_bind, run_underlying hd, Result.andThen_ok, hd]
  cases d <;> rfl
theorem run_sizeOf {t m : Nat} (w : World) (h : ∃ i, P.info? t = some i ∧ i.size = m) : (sizeOf t).run P w = .ok m w := by
  obtain ⟨i, hi, rfl⟩ := h
  simp [sizeOf, typeInfo, hi]
theorem run_part {t : Nat} {r : Nat × Nat × Bool} {cs : Array Value} {v : Value} (w : World) (hs : (P.underlying t).isSome = true) (hz : ∃ i, P.info? t = some i ∧ i.size = r.2.1) (hg : isAggB P t = r.2.2)
    (h : partV r cs.toList = some v) : (part t cs r.1).run P w = .ok v w := by
  unfold partV at h
  simp only [part, Sem.run_bind, run_isAgg w hs, Result.andThen_ok, hg]
  cases hb : r.2.2 with
  | true =>
    simp only [hb, cond_true, Option.some.injEq] at h
    simp only [if_true, Sem.run_bind, run_sizeOf w hz, Result.andThen_ok, Sem.run_pure, ← h, cutL_eq]
    congr 2
    apply Array.ext'
    simp [Array.toList_extract, List.extract_eq_take_drop]
  | false =>
    simp only [hb, cond_false, nth_eq] at h
    cases hc : cs[r.1]? with
    | none => simp [hc] at h
    | some u => simp [hc, frc_eq] at h; subst h; simp

theorem binI_ok {op : BinOp} {k : IntKind} {a b : Int} {v : Value} (t : Nat) (h : binI op k a b = some v) (w : World) : (binOp op t (.int k a) (.int k b)).run P w = .ok v w := by
  cases op <;> simp only [binI, Option.some.injEq, reduceCtorEq] at h <;> try subst h
  all_goals simp only [binOp, ne_eq, not_true_eq_false, if_false]
  all_goals try (simp [Op.intArith, Op.intBits, Op.intCmp, bts]; done)
  · split at h
    · rename_i m
      simp only [Option.some.injEq] at h; subst h
      have h0 : ¬ (Int.ofNat (m + 1) = 0) := by intro e; injection e with e; omega
      simp only [Op.intDiv, if_neg h0, Sem.run_pure]
    · cases h
  · split at h
    · rename_i m
      simp only [Option.some.injEq] at h; subst h
      have h0 : ¬ (Int.ofNat (m + 1) = 0) := by intro e; injection e with e; omega
      simp only [Op.intDiv, if_neg h0, Sem.run_pure]
    · cases h
  · have : (a == b) = decide (a = b) := by rw [Bool.eq_iff_iff]; simp
    simp [Op.intCmp, this]
  · have : (a != b) = decide (a ≠ b) := by rw [Bool.eq_iff_iff]; simp
    simp [Op.intCmp, this]
theorem fdiv_p2 (a : Int) (k : IntKind) (m : Nat) : a.fdiv (p2 k m) = a / p2 k m := Int.fdiv_eq_ediv_of_nonneg _ (by unfold p2; exact Int.le_of_lt (Int.pow_pos (by decide)))
theorem shfI_ok {op : BinOp} {k k' : IntKind} {a b : Int} {v : Value} (t : Nat) (hs : isShf op = true) (h : shfI op k a b = some v) (w : World) : (binOp op t (.int k a) (.int k' b)).run P w = .ok v w := by
  cases op <;> simp only [isShf, Bool.false_eq_true] at hs
  all_goals
    cases b with
    | ofNat m =>
      simp only [shfI, Option.some.injEq] at h; subst h
      have h0 : ¬ (Int.ofNat m < 0) := by simp
      simp only [binOp, Op.shift, if_neg h0, Sem.run_pure]
      first | rfl | (rw [← fdiv_p2]; rfl)
    | negSucc m => simp [shfI] at h
theorem toList_beq (a b : ByteArray) : (a.toList == b.toList) = decide (a = b) := by
  rw [Bool.eq_iff_iff]
  simp only [beq_iff_eq, decide_eq_true_eq, ByteArray.toList_eq]
  constructor
  · intro h
    cases a; cases b
    simp only [ByteArray.mk.injEq]
    exact Array.ext' h
  · rintro rfl; rfl
theorem binS_ok {op : BinOp} {a b : ByteArray} {v : Value} (t : Nat) (h : binS op a b = some v) (w : World) : (binOp op t (.string a) (.string b)).run P w = .ok v w := by
  cases op <;> simp only [binS, Option.some.injEq, reduceCtorEq] at h <;> try subst h
  · simp [binOp, Op.stringOp, toList_beq]
  · simp [binOp, Op.stringOp, toList_beq]
  · simp [binOp, Op.stringOp]
  · simp [binOp, Op.stringOp]
theorem binV_ok {op : BinOp} {t : Nat} {x y v : Value} (h : binV T op t x y = some v) (w : World) : (binOp op t x y).run P w = .ok v w := by
  unfold binV at h
  split at h
  · cases hs : isShf op with
    | true => simp only [hs, cond_true] at h; exact shfI_ok t hs h w
    | false =>
      simp only [hs, cond_false] at h
      rename_i k a k' b
      by_cases hk : k = k'
      · subst hk; simp at h; exact binI_ok t h w
      · simp [hk] at h
  · exact binS_ok t h w
  · rename_i a b
    cases hm : mem T.bools t with
    | false => simp [hm] at h
    | true =>
      simp only [hm, cond_true] at h
      have hu : P.underlying t = some .bool := Tab.bool_ hm
      have hE : ∀ d : Nat, (Op.equalIn (d + 1) t (.bool a) (.bool b)).run P w = .ok (a == b) w := fun d => by
        simp [Op.equalIn, run_underlying hu]
      have hE2 : (Op.equal t (.bool a) (.bool b)).run P w = .ok (a == b) w := hE 9999
      split at h <;> simp only [Option.some.injEq, reduceCtorEq] at h <;> subst h <;> simp only [binOp, Sem.run_bind, hE2, Result.andThen_ok, Sem.run_pure]
  · rename_i a
    cases hm : mem T.ptrs t with
    | false => simp [hm] at h
    | true =>
      simp only [hm, cond_true] at h
      obtain ⟨e, hu⟩ := Tab.ptr (P := P) hm
      have hE : ∀ d : Nat, (Op.equalIn (d + 1) t (.pointer a) (.pointer none)).run P w = .ok a.isNone w := fun d => by
        cases a <;> simp [Op.equalIn, run_underlying hu]
      have hE2 : (Op.equal t (.pointer a) (.pointer none)).run P w = .ok a.isNone w := hE 9999
      split at h <;> simp only [Option.some.injEq, reduceCtorEq] at h <;> subst h <;> simp only [binOp, Sem.run_bind, hE2, Result.andThen_ok, Sem.run_pure]
  · cases h
omit hT in
theorem eqGuard_ok {op : BinOp} {t : Nat} {x y : Operand} {a b v : Value} (h : binV T op t a b = some v) (w : World) : (eqGuard op t x y a b).run P w = .ok () w := by
  unfold binV at h
  split at h
  all_goals try (cases op <;> simp [eqGuard]; done)
  cases h
theorem unV_ok {op : UnOp} {x v : Value} (h : unV op x = some v) (w : World) : (Op.unary op x).run P w = .ok v w := by
  unfold unV at h
  split at h <;> simp only [Option.some.injEq, reduceCtorEq] at h
  · subst h; simp [Op.unary, Op.intArith]
  · subst h; simp [Op.unary, Op.intBits, bts]
  · subst h; simp [Op.unary]

theorem pv_ok {o : Oper} {v : Value} (h : pv T o F = some v) (hok : okO n o = true) : Yl P n o F v := by
  intro w
  obtain ⟨dst, op, ty, pos, after, guard⟩ := o
  have E := fun (x : Operand) (hx : x ∈ op.operands.toList) => okX_of (F := F) hok hx
  cases op <;> simp only [pv, reduceCtorEq, frc_eq, Option.some.injEq] at h <;> simp only [execOp]
  case move x => rw [E x (by simp [Op.operands]), h]; simp
  case assign x => rw [E x (by simp [Op.operands]), h]; simp
  case pick c a b =>
    rw [E c (by simp [Op.operands]), E a (by simp [Op.operands]), E b (by simp [Op.operands])]
    split at h <;> simp only [Option.some.injEq, reduceCtorEq] at h
    · rename_i hc; rw [hc, h]; simp [asBool]
    · rename_i hc; rw [hc, h]; simp [asBool]
  case nilCheck x =>
    rw [E x (by simp [Op.operands])]
    split at h <;> simp only [Option.some.injEq, reduceCtorEq] at h
    rename_i a hx; rw [hx, ← h]; simp
  case binOp op t x y yt =>
    rw [E x (by simp [Op.operands]), E y (by simp [Op.operands])]
    simp only [Sem.run_bind, eqGuard_ok h, binV_ok h, Result.andThen_ok, Sem.run_pure]
  case unOp op t x =>
    rw [E x (by simp [Op.operands])]
    simp only [Sem.run_bind, unV_ok h, Result.andThen_ok, Sem.run_pure]
  case convert s d x =>
    rw [E x (by simp [Op.operands])]
    split at h
    · rename_i k' m hx
      rw [hx]
      cases hd : lk T.ints d with
      | none => simp [hd] at h
      | some k =>
        cases hs : lk T.ints s with
        | none => simp [hd, hs] at h
        | some k2 =>
          simp only [hd, hs, Option.some.injEq] at h
          have h1 : P.underlying d = some (.int k) := Tab.int hd
          have h2 : P.underlying s = some (.int k2) := Tab.int hs
          subst h
          simp [convert, run_underlying h1, run_underlying h2, Conv.intToInt]
    · rename_i b hx
      rw [hx]
      cases hm : (mem T.strs d && mem T.strs s) with
      | false => simp [hm] at h
      | true =>
        simp only [hm, cond_true, Option.some.injEq] at h
        simp only [Bool.and_eq_true] at hm
        have h1 : P.underlying d = some .string := Tab.str hm.1
        have h2 : P.underlying s = some .string := Tab.str hm.2
        subst h
        simp [convert, run_underlying h1, run_underlying h2]
    · cases h
  case extract t i =>
    rw [E t (by simp [Op.operands])]
    split at h
    · rename_i vs ht
      rw [ht]
      simp only [nth_eq] at h
      cases hv : vs[i]? with
      | none => simp [hv] at h
      | some u => simp [hv] at h; subst h; simp [Instr.extract, hv]
    · cases h
  case field t x f =>
    rw [E x (by simp [Op.operands])]
    split at h
    · rename_i cs hx
      rw [hx]
      cases hr : T.fld t f with
      | none => simp [hr] at h
      | some r =>
        simp only [hr] at h
        obtain ⟨fs, fd, h1, h2, h3, h4, h5, h6, h7⟩ := Tab.field_ (P := P) hr
        have hp := run_part (P := P) w h6 h4 h5 h
        simp only [Sem.run_bind, Instr.field, run_underlying h1, Result.andThen_ok, h2, asAgg, Sem.run_pure, h3, hp]
    · cases h
  case fieldAddr t x f =>
    rw [E x (by simp [Op.operands])]
    split at h
    · rename_i b off hx
      rw [hx]
      cases hr : T.fld t f with
      | none => simp [hr] at h
      | some r =>
        simp only [hr, Option.some.injEq] at h
        obtain ⟨fs, fd, h1, h2, h3, ⟨i, hi, hz⟩, h5, h6, h7⟩ := Tab.field_ (P := P) hr
        have hsz : ¬ i.size = 0 := by rw [hz]; exact h7
        have hadd : (⟨b, off, none⟩ : Addr).add r.1 = ⟨b, off + r.1, none⟩ := by unfold Addr.add; split <;> simp_all
        subst h
        simp [Instr.fieldAt, run_underlying h1, h2, Instr.sureAddr, fieldPlace, sizeOf, typeInfo, hi, hsz, h3, hadd]
    · cases h
  case call c =>
    obtain ⟨callee, args, argTypes⟩ := c
    simp only at h
    split at h
    · rename_i x t harg hty
      obtain rfl : args = #[x] := by apply Array.ext'; simpa using harg
      obtain rfl : argTypes = #[t] := by apply Array.ext'; simpa using hty
      have e1 := E x (by simp [Op.operands, Call.operands])
      unfold lenV at h
      split at h
      · rename_i a m c hx
        cases hm : mem T.slices t with
        | false => simp [hm] at h
        | true =>
          simp only [hm, cond_true, Option.some.injEq] at h
          obtain ⟨el, hu⟩ := Tab.slice_ (P := P) hm
          subst h
          simp [resolve, invoke, builtin, Builtin.len_, e1, hx, run_underlying hu, goInt]
      · rename_i b hx
        cases hm : mem T.strs t with
        | false => simp [hm] at h
        | true =>
          simp only [hm, cond_true, Option.some.injEq] at h
          have hu : P.underlying t = some .string := Tab.str hm
          subst h
          simp [resolve, invoke, builtin, Builtin.len_, e1, hx, run_underlying hu, goInt]
      · cases h
    · rename_i x y harg
      obtain rfl : args = #[x, y] := by apply Array.ext'; simpa using harg
      have e1 := E x (by simp [Op.operands, Call.operands])
      have e2 := E y (by simp [Op.operands, Call.operands])
      unfold mmV at h
      split at h
      · rename_i hl
        injection hl with q1 q2
        injection q2 with q2 _
        simp only [cond_false, Option.some.injEq] at h
        subst h
        simp [resolve, invoke, builtin, Builtin.min_, Builtin.min2, e1, q1, e2, q2]
        omega
      · cases h
    · rename_i x y harg
      obtain rfl : args = #[x, y] := by apply Array.ext'; simpa using harg
      have e1 := E x (by simp [Op.operands, Call.operands])
      have e2 := E y (by simp [Op.operands, Call.operands])
      unfold mmV at h
      split at h
      · rename_i hl
        injection hl with q1 q2
        injection q2 with q2 _
        simp only [cond_true, Option.some.injEq] at h
        subst h
        simp [resolve, invoke, builtin, Builtin.max_, Builtin.max2, e1, q1, e2, q2]
        omega
      · cases h
    · cases h
end pv
end Go.V
