/-
  Plain theory, no program: a region that draws its order is proved by one walk. Operations that only read are taken as early as they may come; operations that change the world come in one forced order; behind each of those the reads that might still have to come are asked again.
  Conditions: none; every fact is proved from the library's own definitions.
-/
import Derived.Deep.QuietTactic
import Derived.BigQuiet
import Derived.WalkKit
namespace Go.Plan
open Go

def Cl (w : World) : World → Prop := fun w' => ∃ n, w' = w.drewN n
theorem Cl.refl (w : World) : Cl w w := ⟨0, rfl⟩
def nope : Exit → Act → World → Prop := fun _ _ _ => False
def Qn (next : Act → World → Prop) : Exit → Act → World → Prop := Exit.then next nope

def ancB (anc : Array Nat) (j i : Nat) : Bool := (anc.getD j 0).testBit i
def ancOk (ops : Array Oper) (anc : Array Nat) : Bool :=
  (List.range ops.size).all fun j => match ops[j]? with
    | none => true
    | some o => (List.range ops.size).all fun i => !ancB anc j i || o.after.any fun e => Region.binds .any e && decide (e.on < j) && (e.on == i || ancB anc e.on i)

def Closed (ops : Array Oper) (listed : Array Bool) : Prop :=
  ∀ j o, ops[j]? = some o → listed.getD j false = true → ∀ e ∈ o.after, Region.binds .any e = true → listed.getD e.on false = true

section
variable {P : Program} {ops : Array Oper} {anc : Array Nat} {es : Nat → Bool} {lt : Nat → List Nat} {next : Act → World → Prop}

theorem anc_listed (hanc : ancOk ops anc = true) {listed : Array Bool} (hc : Closed ops listed) (i : Nat) (hi : i < ops.size) :
    ∀ j o, ops[j]? = some o → (∀ e ∈ o.after, Region.binds .any e = true → listed.getD e.on false = true) → ancB anc j i = true → listed.getD i false = true := by
  intro j
  induction j using Nat.strongRecOn with
  | _ j ih =>
    intro o ho hdep ha
    have hj : j < ops.size := (Array.getElem?_eq_some_iff.1 ho).1
    have h1 := List.all_eq_true.1 hanc j (List.mem_range.2 hj)
    simp only [ho] at h1
    have h2 := List.all_eq_true.1 h1 i (List.mem_range.2 hi)
    simp only [ha, Bool.not_true, Bool.false_or] at h2
    obtain ⟨e, he, hb⟩ := Array.any_eq_true'.1 h2
    simp only [Bool.and_eq_true, decide_eq_true_eq, Bool.or_eq_true, beq_iff_eq] at hb
    obtain ⟨⟨hbind, hlt⟩, hor⟩ := hb
    have hl := hdep e he hbind
    rcases hor with rfl | hor
    · exact hl
    · have hlt2 : e.on < ops.size := by omega
      have hget : ops[e.on]? = some ops[e.on] := Array.getElem?_eq_getElem hlt2
      exact ih e.on hlt _ hget (fun e' he' hb' => hc _ _ hget hl e' he' hb') hor

theorem Closed.set {listed : Array Bool} (hc : Closed ops listed) {j : Nat} (hj : j ∈ Region.ready .any ops listed) : Closed ops (listed.setIfInBounds j true) := by
  obtain ⟨hjun, oj, hoj, hall⟩ := mem_ready.1 hj
  intro k o ho hk e he hb
  by_cases hkj : k = j
  · subst hkj
    rw [hoj] at ho
    cases ho
    exact getD_set_true (hall e he hb)
  · rw [getD_set_ne false (Ne.symm hkj)] at hk
    exact getD_set_true (hc k o ho hk e he hb)

/-- One operation more in the frame makes no difference to an operation that does not look at it. -/
theorem wpOp_put2 {Q : Exit → Act → World → Prop} {j : Nat} {oi oj : Oper} {v : Value} (hj : ops[j]? = some oj) (hap : oi.apart ops oj = true)
    (hsj : ∀ cs b, oj.op ≠ .select cs b)
    (hQ : ∀ c a w, ¬ Q (.panic c) a w) {K : Act → World → Prop} {a : Act} {w : World}
    (h : wpOp P ops Q j K (a.put oi.dst v) w) :
    wpOp P ops Q j (fun a' w' => K (a'.put oi.dst v) w') a w := by
  obtain ⟨h1, h2, h3⟩ := Oper.apart_spec hap
  unfold wpOp at *
  simp only [hj] at *
  rw [wanted_put oj a oi.dst v h1] at h
  split
  · rename_i hw
    simp only [hw, if_true] at h
    rcases h with h | ⟨hasks, hlets⟩
    case inr => exact .inr ⟨by unfold Oper.asks at *; rw [execOp_put oj hsj a oi.dst v h1] at hasks; exact hasks, hlets⟩
    refine .inl ?_
    unfold Oper.wp at *
    rw [execOp_put oj hsj a oi.dst v h1] at h
    generalize (execOp a.eval oj).run P w = r at *
    cases r with
    | ok n w' =>
      cases n <;> simp only [Oper.upon] at h ⊢
      case value u => rw [← Act.put_comm a v u h2]; exact h
      case skip => rw [← Act.put_comm a v undef h2]; exact h
      case defer d =>
        rw [← Act.put_comm _ v undef h2, ← Act.put_defers]
        exact h
      case enter f args =>
        refine Calls.mono h fun e w'' he => ?_
        cases e with
        | returned u => show K ((a.put oj.dst u).put oi.dst v) w''; rw [← Act.put_comm a v u h2]; exact he
        | panicked c => exact (hQ _ _ _ he).elim
        | outgrown => exact he
      case row row args => exact Rows.mono h fun u w'' he => by rw [← Act.put_comm a v u h2]; exact he
    | halt x w' =>
      cases x <;> simp only [Oper.upon] at h ⊢
      case panic u => exact (hQ _ _ _ h).elim
  · rename_i hw
    simp only [hw] at h
    rw [← Act.put_comm a v undef h2]; exact h

theorem put_put (a : Act) (d : Option Tmp) (u v : Value) : (a.put d u).put d v = a.put d v := by
  cases d with
  | none => rfl
  | some d => simp [Act.put]

theorem put_back {a : Act} {di dr : Option Tmp} {v u : Value} (hne : ∀ d, di = some d → dr ≠ some d) (h : (a.put di v).put dr u = a.put di v) : a.put dr u = a := by
  cases dr with
  | none => rfl
  | some r =>
    cases di with
    | none => exact h
    | some d =>
      have hdr : d ≠ r := fun e => hne d rfl (by rw [e])
      obtain ⟨t, ds⟩ := a
      simp only [Act.put, Act.mk.injEq, and_true] at h ⊢
      apply Array.ext
      · simp
      · intro k h1 h2
        have hk : ((t.setIfInBounds d v).setIfInBounds r u)[k]? = (t.setIfInBounds d v)[k]? := by rw [h]
        by_cases hkr : r = k
        · subst hkr
          simp only [Array.size_setIfInBounds] at h1
          rw [Array.getElem?_setIfInBounds_ne hdr] at hk
          simp [h1] at hk
          simpa using hk
        · have := Array.getElem?_setIfInBounds_ne (xs := t) (a := u) hkr
          simpa [h1, h2] using this

def Rechk (P : Program) (ops : Array Oper) (w : World) (r : Nat) (a : Act) : Prop := qOp P ops (Cl w) r (fun a' => a' = a) a

def wpAnyR (P : Program) (ops : Array Oper) (es : Nat → Bool) (lt : Nat → List Nat) (next : Act → World → Prop) : Nat → Array Bool → Act → World → Prop
  | 0, listed, a, w => Region.ready .any ops listed = [] ∧ ∀ w', Cl w w' → next a w'
  | fuel + 1, listed, a, w =>
    (Region.ready .any ops listed = [] → ∀ w', Cl w w' → next a w') ∧
    ∀ j ∈ Region.ready .any ops listed,
      if es j then ∀ w', Cl w w' → wpOp P ops (Qn next) j (fun a' w'' => (∀ r ∈ lt j, listed.getD r false = true → Rechk P ops w'' r a') ∧ wpAnyR P ops es lt next fuel (listed.setIfInBounds j true) a' w'') a w'
      else qOp P ops (Cl w) j (fun a' => wpAnyR P ops es lt next fuel (listed.setIfInBounds j true) a' w) a

theorem wpAny_of_R : ∀ (fuel : Nat) (listed : Array Bool) (a : Act) (w : World), wpAnyR P ops es lt next fuel listed a w →
    ∀ w', Cl w w' → wpAny P .any ops (Qn next) fuel listed a w'
  | 0, _, _, _, h, w', hw => ⟨h.1, h.2 w' hw⟩
  | fuel + 1, listed, a, w, h, w', hw => by
    refine ⟨fun h0 => h.1 h0 w' hw, fun j hj => ?_⟩
    have h2 := h.2 j hj
    split at h2
    · exact wpOp_mono (fun a' w'' h3 => wpAny_of_R fuel _ a' w'' h3.2 w'' (Cl.refl _)) (h2 w' hw)
    · exact wpOp_of_qOp (C := Cl w) hw (fun a' w'' hw'' h3 => wpAny_of_R fuel _ a' w h3 w'' hw'') h2

structure Cond (ops : Array Oper) (anc : Array Nat) (es : Nat → Bool) (lt : Nat → List Nat) (i : Nat) (oi : Oper) (listed : Array Bool) : Prop where
  un : ∀ j oj, ops[j]? = some oj → j ≠ i → listed.getD j true = false → ancB anc j i = true ∨ (oi.apart ops oj = true ∧ (es j = true → i ∈ lt j))
  done : ∀ r ro, ops[r]? = some ro → r ≠ i → listed.getD r false = true → (∃ j, j < ops.size ∧ es j = true ∧ r ∈ lt j) → ∀ d, oi.dst = some d → d ∉ ro.looksAt ops ∧ ro.dst ≠ some d

theorem getD_of_unlisted {listed : Array Bool} {i : Nat} (h : listed.getD i true = false) : i < listed.size ∧ listed.getD i false = false := by
  rcases Nat.lt_or_ge i listed.size with h' | h'
  · simp [h'] at h ⊢; exact h
  · simp [Array.getElem?_eq_none h'] at h

theorem first {i : Nat} {oi : Oper} (hi : ops[i]? = some oi) (hsel : ∀ (j : Nat) (o : Oper) cs b, ops[j]? = some o → o.op ≠ .select cs b)
    (hanc : ancOk ops anc = true) (hes : es i = false) (hself : ∀ d, oi.dst = some d → d ∉ oi.looksAt ops) :
    ∀ (fuel : Nat) (listed : Array Bool) (a : Act) (w : World) (v : Value), Closed ops listed → Cond ops anc es lt i oi listed →
      i ∈ Region.ready .any ops listed → YieldsIn P ops (Cl w) oi v a →
      wpAnyR P ops es lt next fuel (listed.setIfInBounds i true) (a.put oi.dst v) w → wpAnyR P ops es lt next (fuel + 1) listed a w := by
  intro fuel
  induction fuel with
  | zero =>
    intro listed a w v _ _ hr hy H
    refine ⟨fun h => (by rw [h] at hr; cases hr), fun j hj => ?_⟩
    by_cases hji : j = i
    · subst hji; rw [if_neg (by simp [hes])]; exact hy.qOp hi H
    · have := ready_mono hj hji
      rw [H.1] at this
      cases this
  | succ fuel ih =>
    intro listed a w v hcl hcond hr hy H
    refine ⟨fun h => (by rw [h] at hr; cases hr), fun j hj => ?_⟩
    by_cases hji : j = i
    · subst hji; rw [if_neg (by simp [hes])]; exact hy.qOp hi H
    · have h1 := H.2 j (ready_mono hj hji)
      obtain ⟨hjun, oj, hoj, hall⟩ := mem_ready.1 hj
      obtain ⟨hiun, _, _, _⟩ := mem_ready.1 hr
      have hil := getD_of_unlisted hiun
      have hilt : i < ops.size := (Array.getElem?_eq_some_iff.1 hi).1
      have hnanc : ¬ ancB anc j i = true := fun hA => by
        have := anc_listed hanc hcl i hilt j oj hoj hall hA
        rw [hil.2] at this
        cases this
      obtain ⟨hap, hlt⟩ := (hcond.un j oj hoj hji hjun).resolve_left hnanc
      obtain ⟨p1, p2, p3⟩ := Oper.apart_spec hap
      have hcl' := hcl.set hj
      have hcond' : Cond ops anc es lt i oi (listed.setIfInBounds j true) := by
        refine ⟨fun k ok hk hki hun => hcond.un k ok hk hki ?_, fun r ro hro hri hl hex d hd => ?_⟩
        · by_cases hjk : j = k
          · subst hjk; exact hjun
          · rw [getD_set_ne true hjk] at hun; exact hun
        · by_cases hjr : j = r
          · subst hjr
            rw [hoj] at hro; cases hro
            exact ⟨p1 d hd, p2 d hd⟩
          · rw [getD_set_ne false hjr] at hl
            exact hcond.done r ro hro hri hl hex d hd
      have hr' := ready_mono hr (Ne.symm hji)
      by_cases hej : es j = true
      · rw [if_pos hej] at h1 ⊢
        intro w' hw'
        have h2 := wpOp_put2 hoj hap (fun cs b => hsel j oj cs b hoj) (fun c a w h => h) (h1 w' hw')
        refine wpOp_mono (fun a' w'' h3 => ?_) h2
        obtain ⟨h4, h5⟩ := h3
        refine ⟨fun r hrl hrd => ?_, ?_⟩
        · have hri : r ≠ i := fun e => by subst e; rw [hil.2] at hrd; cases hrd
          have h6 := h4 r hrl (getD_set_true hrd)
          cases hro : ops[r]? with
          | none => unfold Rechk qOp; simp [hro]
          | some ro =>
            obtain ⟨u, hyu, hu⟩ := yieldsIn_of_qOp hro h6
            have hd := hcond.done r ro hro hri hrd ⟨j, (Array.getElem?_eq_some_iff.1 hoj).1, hej, hrl⟩
            have hy2 : YieldsIn P ops (Cl w'') ro u a' := hyu.of_same (execOp_put ro (fun cs b => hsel r ro cs b hro) a' oi.dst v (fun d e => (hd d e).1)).symm (wanted_put ro a' oi.dst v (fun d e => (hd d e).1)).symm
            exact hy2.qOp hro (put_back (fun d e => (hd d e).2) hu)
        · have h6 := h4 i (hlt hej) (by simp [hil.1])
          obtain ⟨v', hyv, hv⟩ := yieldsIn_of_qOp hi h6
          have hy2 : YieldsIn P ops (Cl w'') oi v' a' := hyv.of_same (execOp_put oi (fun cs b => hsel i oi cs b hi) a' oi.dst v hself).symm (wanted_put oi a' oi.dst v hself).symm
          rw [put_put] at hv
          refine ih (listed.setIfInBounds j true) a' w'' v' hcl' hcond' hr' hy2 ?_
          rw [hv, Array.setIfInBounds_comm _ _ hji]
          exact h5
      · rw [if_neg hej] at h1 ⊢
        have h2 := qOp_put hoj hap (fun cs b => hsel i oi cs b hi) (fun cs b => hsel j oj cs b hoj) hy h1
        refine qOp_mono (fun a' h3 => ih (listed.setIfInBounds j true) a' w v hcl' hcond' hr' h3.1 ?_) h2
        rw [Array.setIfInBounds_comm _ _ hji]
        exact h3.2
end

/-! ### The plan: data and its check -/
def opsAt (ops : Array Oper) (l : List Nat) : List Oper := l.filterMap (ops[·]?)

def ltOf (n : Nat) (anc : Array Nat) (es : Nat → Bool) (j : Nat) : List Nat :=
  (List.range n).filter fun r => !es r && !ancB anc j r && !ancB anc r j

def takeOk (ops : Array Oper) (anc : Array Nat) (es : Nat → Bool) (lt : Nat → List Nat) (listed : Array Bool) (i : Nat) : Bool :=
  match ops[i]? with
  | none => false
  | some oi => (Region.ready .any ops listed).contains i && !es i && (match oi.dst with | some d => !(oi.looksAt ops).contains d | none => true) &&
    (List.range ops.size).all fun j => j == i || match ops[j]? with
      | none => true
      | some oj => if listed.getD j false then
          (List.range ops.size).all (fun k => !es k || !(lt k).contains j) || (match oi.dst with | some d => !(oj.looksAt ops).contains d && oj.dst != some d | none => true)
        else ancB anc j i || (oi.apart ops oj && (!es j || (lt j).contains i))

def segOk (ops : Array Oper) (anc : Array Nat) (es : Nat → Bool) (lt : Nat → List Nat) : List Nat → Array Bool → Option (Array Bool)
  | [], listed => some listed
  | i :: rest, listed => if takeOk ops anc es lt listed i then segOk ops anc es lt rest (listed.setIfInBounds i true) else none

abbrev Steps := List (List Nat × Option (Nat × List Nat))

def planOk (ops : Array Oper) (anc : Array Nat) (es : Nat → Bool) (lt : Nat → List Nat) : Steps → Array Bool → Bool
  | [], listed => (Region.ready .any ops listed).isEmpty
  | (seg, none) :: rest, listed => match segOk ops anc es lt seg listed with
    | some l => planOk ops anc es lt rest l
    | none => false
  | (seg, some (e, re)) :: rest, listed => match segOk ops anc es lt seg listed with
    | some l => es e && (ops[e]?).isSome && (Region.ready .any ops l == [e]) && ((lt e).all fun r => !l.getD r false || re.contains r) && planOk ops anc es lt rest (l.setIfInBounds e true)
    | none => false

def planLen : Steps → Nat
  | [] => 0
  | (seg, none) :: rest => seg.length + planLen rest
  | (seg, some _) :: rest => seg.length + (planLen rest + 1)

def planEs : Steps → List Nat
  | [] => []
  | (_, none) :: rest => planEs rest
  | (_, some (e, _)) :: rest => e :: planEs rest

def check (ops : Array Oper) (st : Steps) : Bool :=
  let anc := Region.before ops
  let es := fun j => (planEs st).contains j
  let lt := ltOf ops.size anc es
  Region.noSelect ops && ancOk ops anc && (planLen st == ops.size) && planOk ops anc es lt st (Array.replicate ops.size false)

def RE (P : Program) (ops : Array Oper) (w : World) (a : Act) : List Oper → Prop
  | [] => True
  | o :: rest => wpQuiet P ops (fun w' => ∃ n, w' = w.drewN n) (fun a' => a' = a) [o] a ∧ RE P ops w a rest

def wpPlan (P : Program) (ops : Array Oper) (next : Act → World → Prop) : Steps → Act → World → Prop
  | [], a, w => ∀ w', (∃ n, w' = w.drewN n) → next a w'
  | (seg, none) :: rest, a, w => wpQuiet P ops (fun w' => ∃ n, w' = w.drewN n) (fun a' => wpPlan P ops next rest a' w) (opsAt ops seg) a
  | (seg, some (e, re)) :: rest, a, w => wpQuiet P ops (fun w' => ∃ n, w' = w.drewN n) (fun a' => ∀ w', (∃ n, w' = w.drewN n) →
      wpList P ops (Exit.then (fun a'' w'' => RE P ops w'' a'' (opsAt ops re) ∧ wpPlan P ops next rest a'' w'') nope) (opsAt ops [e]) a' w') (opsAt ops seg) a

section
variable {P : Program} {ops : Array Oper} {anc : Array Nat} {es : Nat → Bool} {lt : Nat → List Nat} {next : Act → World → Prop}

theorem takeOk_spec {listed : Array Bool} {i : Nat} (h : takeOk ops anc es lt listed i = true) :
    ∃ oi, ops[i]? = some oi ∧ i ∈ Region.ready .any ops listed ∧ es i = false ∧ (∀ d, oi.dst = some d → d ∉ oi.looksAt ops) ∧ Cond ops anc es lt i oi listed := by
  unfold takeOk at h
  cases hi : ops[i]? with
  | none => simp [hi] at h
  | some oi =>
    simp only [hi, Bool.and_eq_true, Bool.not_eq_true', List.all_eq_true, List.mem_range] at h
    obtain ⟨⟨⟨h1, h2⟩, h3⟩, h4⟩ := h
    refine ⟨oi, rfl, by simpa using h1, h2, fun d hd => by simpa [hd] using h3, ⟨fun j oj hoj hji hun => ?_, fun r ro hro hri hl hex d hd => ?_⟩⟩
    · have hj := h4 j (Array.getElem?_eq_some_iff.1 hoj).1
      have hne : (j == i) = false := by simpa using hji
      simp only [hne, Bool.false_or, hoj, (getD_of_unlisted hun).2, Bool.false_eq_true, if_false, Bool.or_eq_true, Bool.and_eq_true, Bool.not_eq_true'] at hj
      rcases hj with hj | ⟨ha, hl⟩
      · exact .inl hj
      · refine .inr ⟨ha, fun he => ?_⟩
        rcases hl with hl | hl
        · rw [he] at hl; cases hl
        · simpa using hl
    · have hj := h4 r (Array.getElem?_eq_some_iff.1 hro).1
      have hne : (r == i) = false := by simpa using hri
      simp only [hne, Bool.false_or, hro, hl, if_true, Bool.or_eq_true, List.all_eq_true, List.mem_range, hd, Bool.and_eq_true, Bool.not_eq_true'] at hj
      obtain ⟨j, hjs, hej, hrj⟩ := hex
      rcases hj with hj | hj
      · rcases hj j hjs with h5 | h5
        · rw [hej] at h5; cases h5
        · rw [List.contains_iff_mem.2 hrj] at h5; cases h5
      · exact ⟨by simpa using hj.1, by simpa using hj.2⟩

theorem wpQuiet_mono {C : World → Prop} {Q Q' : Act → Prop} (h : ∀ a, Q a → Q' a) : ∀ (l : List Oper) (a : Act), wpQuiet P ops C Q l a → wpQuiet P ops C Q' l a
  | [], a, hh => h a hh
  | o :: l, a, hh => by
    unfold wpQuiet at *
    split
    · rename_i hw; rw [if_pos hw] at hh; exact Oper.quiet_mono (fun a' => wpQuiet_mono h l a') hh
    · rename_i hw; rw [if_neg hw] at hh; exact wpQuiet_mono h l _ hh

theorem seg_sound (hsel : ∀ (j : Nat) (o : Oper) cs b, ops[j]? = some o → o.op ≠ .select cs b) (hanc : ancOk ops anc = true) (fuel : Nat) (w : World) :
    ∀ (seg : List Nat) (listed l : Array Bool) (a : Act), segOk ops anc es lt seg listed = some l → Closed ops listed →
      wpQuiet P ops (Cl w) (fun a' => Closed ops l → wpAnyR P ops es lt next fuel l a' w) (opsAt ops seg) a → wpAnyR P ops es lt next (seg.length + fuel) listed a w := by
  intro seg
  induction seg with
  | nil =>
    intro listed l a h hc hw
    simp only [segOk, Option.some.injEq] at h
    subst h
    simp only [List.length_nil, Nat.zero_add]
    exact hw hc
  | cons i rest ih =>
    intro listed l a h hc hw
    simp only [segOk] at h
    split at h
    · rename_i ht
      obtain ⟨oi, hi, hr, hes, hself, hcond⟩ := takeOk_spec ht
      have hq : qOp P ops (Cl w) i (wpQuiet P ops (Cl w) (fun a' => Closed ops l → wpAnyR P ops es lt next fuel l a' w) (opsAt ops rest)) a := by
        simp only [opsAt, List.filterMap_cons, hi] at hw
        unfold qOp
        simp only [hi]
        exact hw
      obtain ⟨v, hy, hK⟩ := yieldsIn_of_qOp hi hq
      have := first hi hsel hanc hes hself (rest.length + fuel) listed a w v hc hcond hr hy (ih _ l _ h (hc.set hr) hK)
      rw [List.length_cons, show rest.length + 1 + fuel = rest.length + fuel + 1 by omega]
      exact this
    · cases h

theorem segOk_closed : ∀ (seg : List Nat) (listed l : Array Bool), segOk ops anc es lt seg listed = some l → Closed ops listed → Closed ops l := by
  intro seg
  induction seg with
  | nil => intro listed l h hc; simp only [segOk, Option.some.injEq] at h; subst h; exact hc
  | cons i rest ih =>
    intro listed l h hc
    simp only [segOk] at h
    split at h
    · rename_i ht
      obtain ⟨oi, hi, hr, _⟩ := takeOk_spec ht
      exact ih _ l h (hc.set hr)
    · cases h

theorem Oper.wp_monoQ {o : Oper} {a : Act} {w : World} {K : Act → World → Prop} {Q Q' : Exit → Act → World → Prop} (h : ∀ e a w, e ≠ .normal → Q e a w → Q' e a w)
    (hh : o.wp P a w K Q) : o.wp P a w K Q' := by
  unfold Oper.wp at *
  generalize (execOp a.eval o).run P w = r at *
  cases r with
  | ok n w' =>
    cases n <;> simp only [Oper.upon] at hh ⊢ <;>
      first
        | exact hh
        | exact Calls.mono hh (fun e w'' he => by
            cases e
            · exact he
            · exact h _ _ _ (by simp) he
            · exact he.imp fun a => Exists.imp fun w => h _ _ _ (by simp))
  | halt x w' => cases x <;> simp only [Oper.upon] at hh ⊢ <;> exact h _ _ _ (by simp) hh

theorem RE_mem {w : World} {a : Act} : ∀ (l : List Oper), RE P ops w a l → ∀ o ∈ l, wpQuiet P ops (Cl w) (fun a' => a' = a) [o] a
  | [], _, _, h => by cases h
  | o :: l, hh, o', h => by
    rcases List.mem_cons.1 h with rfl | h
    · exact hh.1
    · exact RE_mem l hh.2 o' h

theorem plan_sound (hsel : ∀ (j : Nat) (o : Oper) cs b, ops[j]? = some o → o.op ≠ .select cs b) (hanc : ancOk ops anc = true) :
    ∀ (st : Steps) (listed : Array Bool) (a : Act) (w : World), planOk ops anc es lt st listed = true → Closed ops listed → wpPlan P ops next st a w → wpAnyR P ops es lt next (planLen st) listed a w := by
  intro st
  induction st with
  | nil =>
    intro listed a w h _ hw
    exact ⟨by simpa [planOk] using h, hw⟩
  | cons s rest ih =>
    intro listed a w h hc hw
    obtain ⟨seg, oe⟩ := s
    cases oe with
    | none =>
      simp only [planOk] at h
      split at h
      · rename_i l hl
        refine seg_sound hsel hanc (planLen rest) w seg listed l a hl hc ?_
        exact wpQuiet_mono (fun a' h' hc' => ih l a' w h hc' h') _ _ hw
      · cases h
    | some er =>
      obtain ⟨e, re⟩ := er
      simp only [planOk] at h
      split at h
      · rename_i l hl
        simp only [Bool.and_eq_true, beq_iff_eq, List.all_eq_true, Bool.or_eq_true, Bool.not_eq_true'] at h
        obtain ⟨⟨⟨⟨hes, hsome⟩, hready⟩, hre⟩, hrest⟩ := h
        have hcl := segOk_closed seg listed l hl hc
        obtain ⟨oe, hoe⟩ := Option.isSome_iff_exists.1 hsome
        refine seg_sound hsel hanc (planLen rest + 1) w seg listed l a hl hc ?_
        refine wpQuiet_mono (fun a' h' _ => ⟨fun h0 => (by rw [hready] at h0; cases h0), fun j hj => ?_⟩) _ _ hw
        have hje : j = e := by rw [hready] at hj; simpa using hj
        subst hje
        rw [if_pos hes]
        intro w' hw'
        have h2 := h' w' hw'
        simp only [opsAt, List.filterMap_cons, hoe, List.filterMap_nil] at h2
        have hcl2 := hcl.set (j := j) (by rw [hready]; simp)
        have fin : ∀ a'' w'', (RE P ops w'' a'' (re.filterMap (ops[·]?)) ∧ wpPlan P ops next rest a'' w'') →
            ((∀ r ∈ lt j, l.getD r false = true → Rechk P ops w'' r a'') ∧ wpAnyR P ops es lt next (planLen rest) (l.setIfInBounds j true) a'' w'') := by
          rintro a'' w'' ⟨h3, h4⟩
          refine ⟨fun r hr hlr => ?_, ih _ a'' w'' hrest hcl2 h4⟩
          have hmem : r ∈ re := by
            rcases hre r hr with h5 | h5
            · rw [hlr] at h5; cases h5
            · simpa using h5
          unfold Rechk qOp
          cases hro : ops[r]? with
          | none => simp
          | some ro =>
            have := RE_mem _ h3 ro (List.mem_filterMap.2 ⟨r, hmem, hro⟩)
            exact this
        unfold wpOp
        simp only [hoe]
        simp only [wpList] at h2
        split
        · rename_i hwant
          rw [if_pos hwant] at h2
          rcases h2 with h2 | ⟨_, h2⟩
          · exact .inl (Oper.wp_mono (fun a'' w'' h3 => fin a'' w'' h3) (Oper.wp_monoQ (fun e a w hne h => by cases e <;> first | exact absurd rfl hne | exact h) h2))
          · obtain ⟨_, _, h2⟩ := h2; exact h2.elim
        · rename_i hwant
          rw [if_neg hwant] at h2
          exact fin _ _ h2
      · cases h

/-- A region that draws its order, by a plan. -/
theorem wp_plan {id : Nat} {Q : Exit → Act → World → Prop} {a : Act} {w : World} (st : Steps) (hm : P.follows .mixedOrders = true) (hB : check ops st = true)
    (h : wpPlan P ops (fun a w => Q .normal a w) st a w) : (Code.region id ops true).wp P Q a w := by
  simp only [check, Bool.and_eq_true, beq_iff_eq] at hB
  obtain ⟨⟨⟨hs, hanc⟩, hlen⟩, hplan⟩ := hB
  have hcl : Closed ops (Array.replicate ops.size false) := by
    intro j o _ hj
    have : (Array.replicate ops.size false).getD j false = false := by
      rcases Nat.lt_or_ge j ops.size with h' | h'
      · simp [h']
      · simp [h']
    rw [this] at hj
    cases hj
  have h1 := plan_sound (next := fun a w => Q .normal a w) (Region.noSelect_spec hs) hanc st _ a w hplan hcl h
  rw [hlen] at h1
  have h2 := wpAny_of_R _ _ _ _ h1 { w with drawn := w.drawn + 1 } ⟨1, rfl⟩
  refine wp_mono (Q := Qn (fun a w => Q .normal a w)) (wp_region_any hm h2) fun e a w hq => ?_
  cases e <;> first | exact hq | exact hq.elim

theorem wp_plan_lit {id : Nat} {Q : Exit → Act → World → Prop} {a : Act} {w : World} {l : List Oper} (st : Steps) (hm : P.follows .mixedOrders = true) (hB : check l.toArray st = true)
    (h : wpPlan P l.toArray (fun a w => Q .normal a w) st a w) : (Code.region id l.toArray true).wp P Q a w := wp_plan st hm hB h
end
end Go.Plan
