/-
  What the proof of Jsa stands on, part 1.
  Conditions: none.
-/
import Derived.Test.YtlifpobidhfbfaaGreatDoorRows
import Derived.Deep.QuietTactic
import Derived.BigQuiet
import Derived.WalkKit
import Derived.Laws.RangeString
import Derived.Laws.StructEq
import Derived.Laws.Strings3
import Derived.MapKept
import Derived.WideLaws
import Derived.ProofKit
import Derived.Deep.Slices
import Derived.Shelf.SlIterI.Nil
import Derived.Laws.AppendOwn
import Derived.Sort.OwnSortedInts
import Derived.Lib.SlicesCompact
import Derived.Lib.SlKeysI
import Derived.Shelf.SortM.Plain
import Derived.Shelf.SortM.SortNone
import Derived.Shelf.SlicesG.CompactI
import Derived.Shelf.SlicesE.DeleteFunc
import Derived.Test.YtlifpobidhfbfaaGreatDoorProg
import Derived.SizedLaws
import Derived.Test.YtlifpobidhfbfaaGreatDoorTie
import Derived.Test.YtlifpobidhfbfaaGreatDoorCards
import Derived.OpenShut
import Derived.LaidMore
import Derived.Lay
import Derived.SevenTiedAt
import Derived.Stop.Joined
set_option maxRecDepth 8192
namespace Go.Plan
open Go
def Cl (w : World) : World → Prop := fun w' => ∃ n, w' = w.drewN n
theorem Cl.refl (w : World) : Cl w w := ⟨0, rfl⟩
def Qo : Exit → Act → World → Prop := fun _ _ _ => False
def Qn (next : Act → World → Prop) : Exit → Act → World → Prop := Exit.then next Qo
def Ci (anc : Array Nat) (j i : Nat) : Bool := (anc.getD j 0).testBit i
def J_ (ops : Array Oper) (anc : Array Nat) : Bool :=
 (List.range ops.size).all fun j => match ops[j]? with
  | none => true
  | some o => (List.range ops.size).all fun i => !Ci anc j i || o.after.any fun e => Region.binds .any e && decide (e.on < j) && (e.on == i || Ci anc e.on i)
def Closed (ops : Array Oper) (listed : Array Bool) : Prop :=
 ∀ j o, ops[j]? = some o → listed.getD j false = true → ∀ e ∈ o.after, Region.binds .any e = true → listed.getD e.on false = true
section
variable {P : Program} {ops : Array Oper} {anc : Array Nat} {es : Nat → Bool} {lt : Nat → List Nat} {next : Act → World → Prop}
theorem U5 (hanc : J_ ops anc = true) {listed : Array Bool} (hc : Closed ops listed) (i : Nat) (hi : i < ops.size) :
  ∀ j o, ops[j]? = some o → (∀ e ∈ o.after, Region.binds .any e = true → listed.getD e.on false = true) → Ci anc j i = true → listed.getD i false = true := by
 intro j
 induction j using Nat.strongRecOn with
 | _ j ih =>
  intro o ho hdep ha
  have hj : j < ops.size := (Array.getElem?_eq_some_iff.1 ho).1
  have h1 := List.all_eq_true.1 hanc j (List.mem_range.2 hj)
  simp only [ho] at h1
  have h2 := List.all_eq_true.1 h1 i (List.mem_range.2 hi)
  simp only [ha, Bool.not_true, Bool.false_or] at h2
  obtain ⟨e, he, hb⟩ := Array.any_eq_true'.1 h2
  simp only [Bool.and_eq_true, decide_eq_true_eq, Bool.or_eq_true, beq_iff_eq] at hb
  obtain ⟨⟨hbind, hlt⟩, hor⟩ := hb
  have hl := hdep e he hbind
  rcases hor with rfl | hor
  ·exact hl
  ·have hlt2 : e.on < ops.size := by omega
   have hget : ops[e.on]? = some ops[e.on] := Array.getElem?_eq_getElem hlt2
   exact ih e.on hlt _ hget (fun e' he' hb' => hc _ _ hget hl e' he' hb') hor
theorem Closed.set {listed : Array Bool} (hc : Closed ops listed) {j : Nat} (hj : j ∈ Region.ready .any ops listed) : Closed ops (listed.setIfInBounds j true) := by
 obtain ⟨hjun, oj, hoj, hall⟩ := mem_ready.1 hj
 intro k o ho hk e he hb
 by_cases hkj : k = j
 ·subst hkj
  rw [hoj] at ho
  cases ho
  exact getD_set_true (hall e he hb)
 ·rw [getD_set_ne false (Ne.symm hkj)] at hk
  exact getD_set_true (hc k o ho hk e he hb)
theorem Ca {Q : Exit → Act → World → Prop} {j : Nat} {oi oj : Oper} {v : Value} (hj : ops[j]? = some oj) (hap : oi.apart ops oj = true)
  (hsj : ∀ cs b, oj.op ≠ .select cs b)
  (hQ : ∀ c a w, ¬ Q (.panic c) a w) {K : Act → World → Prop} {a : Act} {w : World}
  (h : wpOp P ops Q j K (a.put oi.dst v) w) :
  wpOp P ops Q j (fun a' w' => K (a'.put oi.dst v) w') a w := by
 obtain ⟨h1, h2, h3⟩ := Oper.apart_spec hap
 unfold wpOp at *
 simp only [hj] at *
 rw [wanted_put oj a oi.dst v h1] at h
 split
 ·rename_i hw
  simp only [hw, if_true] at h
  rcases h with h | ⟨hasks, hlets⟩
  case inr => exact .inr ⟨by unfold Oper.asks at *; rw [execOp_put oj hsj a oi.dst v h1] at hasks; exact hasks, hlets⟩
  refine .inl ?_
  unfold Oper.wp at *
  rw [execOp_put oj hsj a oi.dst v h1] at h
  generalize (execOp a.eval oj).run P w = r at *
  cases r with
  | ok n w' =>
   cases n <;> simp only [Oper.upon] at h ⊢
   case value u => rw [← Act.put_comm a v u h2]; exact h
   case skip => rw [← Act.put_comm a v undef h2]; exact h
   case defer d =>
    rw [← Act.put_comm _ v undef h2, ← Act.put_defers]
    exact h
   case enter f args =>
    refine Calls.mono h fun e w'' he => ?_
    cases e with
    | returned u => show K ((a.put oj.dst u).put oi.dst v) w''; rw [← Act.put_comm a v u h2]; exact he
    | panicked c => exact (hQ _ _ _ he).elim
    | outgrown => exact he
   case row row args => exact Rows.mono h fun u w'' he => by rw [← Act.put_comm a v u h2]; exact he
  | halt x w' =>
   cases x <;> simp only [Oper.upon] at h ⊢
   case panic u => exact (hQ _ _ _ h).elim
 ·rename_i hw
  simp only [hw] at h
  rw [← Act.put_comm a v undef h2]; exact h
theorem Zae (a : Act) (d : Option Tmp) (u v : Value) : (a.put d u).put d v = a.put d v := by
 cases d with
 | none => rfl
 | some d => simp [Act.put]
theorem VG {a : Act} {di dr : Option Tmp} {v u : Value} (hne : ∀ d, di = some d → dr ≠ some d) (h : (a.put di v).put dr u = a.put di v) : a.put dr u = a := by
 cases dr with
 | none => rfl
 | some r =>
  cases di with
  | none => exact h
  | some d =>
   have hdr : d ≠ r := fun e => hne d rfl (by rw [e])
   obtain ⟨t, ds⟩ := a
   simp only [Act.put, Act.mk.injEq, and_true] at h ⊢
   apply Array.ext
   ·simp
   ·intro k h1 h2
    have hk : ((t.setIfInBounds d v).setIfInBounds r u)[k]? = (t.setIfInBounds d v)[k]? := by rw [h]
    by_cases hkr : r = k
    ·subst hkr
     simp only [Array.size_setIfInBounds] at h1
     rw [Array.getElem?_setIfInBounds_ne hdr] at hk
     simp [h1] at hk
     simpa using hk
    ·have := Array.getElem?_setIfInBounds_ne (xs := t) (a := u) hkr
     simpa [h1, h2] using this
def JG (P : Program) (ops : Array Oper) (w : World) (r : Nat) (a : Act) : Prop := qOp P ops (Cl w) r (fun a' => a' = a) a
def YE (P : Program) (ops : Array Oper) (es : Nat → Bool) (lt : Nat → List Nat) (next : Act → World → Prop) : Nat → Array Bool → Act → World → Prop
 | 0, listed, a, w => Region.ready .any ops listed = [] ∧ ∀ w', Cl w w' → next a w'
 | fuel + 1, listed, a, w =>
  (Region.ready .any ops listed = [] → ∀ w', Cl w w' → next a w') ∧
  ∀ j ∈ Region.ready .any ops listed,
   if es j then ∀ w', Cl w w' → wpOp P ops (Qn next) j (fun a' w'' => (∀ r ∈ lt j, listed.getD r false = true → JG P ops w'' r a') ∧ YE P ops es lt next fuel (listed.setIfInBounds j true) a' w'') a w'
   else qOp P ops (Cl w) j (fun a' => YE P ops es lt next fuel (listed.setIfInBounds j true) a' w) a
theorem Xb : ∀ (fuel : Nat) (listed : Array Bool) (a : Act) (w : World), YE P ops es lt next fuel listed a w →
  ∀ w', Cl w w' → wpAny P .any ops (Qn next) fuel listed a w'
 | 0, _, _, _, h, w', hw => ⟨h.1, h.2 w' hw⟩
 | fuel + 1, listed, a, w, h, w', hw => by
  refine ⟨fun h0 => h.1 h0 w' hw, fun j hj => ?_⟩
  have h2 := h.2 j hj
  split at h2
  ·exact wpOp_mono (fun a' w'' h3 => Xb fuel _ a' w'' h3.2 w'' (Cl.refl _)) (h2 w' hw)
  ·exact wpOp_of_qOp (C := Cl w) hw (fun a' w'' hw'' h3 => Xb fuel _ a' w h3 w'' hw'') h2
structure Cond (ops : Array Oper) (anc : Array Nat) (es : Nat → Bool) (lt : Nat → List Nat) (i : Nat) (oi : Oper) (listed : Array Bool) : Prop where
 un : ∀ j oj, ops[j]? = some oj → j ≠ i → listed.getD j true = false → Ci anc j i = true ∨ (oi.apart ops oj = true ∧ (es j = true → i ∈ lt j))
 done : ∀ r ro, ops[r]? = some ro → r ≠ i → listed.getD r false = true → (∃ j, j < ops.size ∧ es j = true ∧ r ∈ lt j) → ∀ d, oi.dst = some d → d ∉ ro.looksAt ops ∧ ro.dst ≠ some d
theorem YS {listed : Array Bool} {i : Nat} (h : listed.getD i true = false) : i < listed.size ∧ listed.getD i false = false := by
 rcases Nat.lt_or_ge i listed.size with h' | h'
 ·simp [h'] at h ⊢; exact h
 ·simp [Array.getElem?_eq_none h'] at h
theorem first {i : Nat} {oi : Oper} (hi : ops[i]? = some oi) (hsel : ∀ (j : Nat) (o : Oper) cs b, ops[j]? = some o → o.op ≠ .select cs b)
  (hanc : J_ ops anc = true) (hes : es i = false) (hself : ∀ d, oi.dst = some d → d ∉ oi.looksAt ops) :
  ∀ (fuel : Nat) (listed : Array Bool) (a : Act) (w : World) (v : Value), Closed ops listed → Cond ops anc es lt i oi listed →
   i ∈ Region.ready .any ops listed → YieldsIn P ops (Cl w) oi v a →
   YE P ops es lt next fuel (listed.setIfInBounds i true) (a.put oi.dst v) w → YE P ops es lt next (fuel + 1) listed a w := by
 intro fuel
 induction fuel with
 | zero =>
  intro listed a w v _ _ hr hy H
  refine ⟨fun h => (by rw [h] at hr; cases hr), fun j hj => ?_⟩
  by_cases hji : j = i
  ·subst hji; rw [if_neg (by simp [hes])]; exact hy.qOp hi H
  ·have := ready_mono hj hji
   rw [H.1] at this
   cases this
 | succ fuel ih =>
  intro listed a w v hcl hcond hr hy H
  refine ⟨fun h => (by rw [h] at hr; cases hr), fun j hj => ?_⟩
  by_cases hji : j = i
  ·subst hji; rw [if_neg (by simp [hes])]; exact hy.qOp hi H
  ·have h1 := H.2 j (ready_mono hj hji)
   obtain ⟨hjun, oj, hoj, hall⟩ := mem_ready.1 hj
   obtain ⟨hiun, _, _, _⟩ := mem_ready.1 hr
   have hil := YS hiun
   have hilt : i < ops.size := (Array.getElem?_eq_some_iff.1 hi).1
   have hnanc : ¬ Ci anc j i = true := fun hA => by
    have := U5 hanc hcl i hilt j oj hoj hall hA
    rw [hil.2] at this
    cases this
   obtain ⟨hap, hlt⟩ := (hcond.un j oj hoj hji hjun).resolve_left hnanc
   obtain ⟨p1, p2, p3⟩ := Oper.apart_spec hap
   have hcl' := hcl.set hj
   have hcond' : Cond ops anc es lt i oi (listed.setIfInBounds j true) := by
    refine ⟨fun k ok hk hki hun => hcond.un k ok hk hki ?_, fun r ro hro hri hl hex d hd => ?_⟩
    ·by_cases hjk : j = k
     ·subst hjk; exact hjun
     ·rw [getD_set_ne true hjk] at hun; exact hun
    ·by_cases hjr : j = r
     ·subst hjr
      rw [hoj] at hro; cases hro
      exact ⟨p1 d hd, p2 d hd⟩
     ·rw [getD_set_ne false hjr] at hl
      exact hcond.done r ro hro hri hl hex d hd
   have hr' := ready_mono hr (Ne.symm hji)
   by_cases hej : es j = true
   ·rw [if_pos hej] at h1 ⊢
    intro w' hw'
    have h2 := Ca hoj hap (fun cs b => hsel j oj cs b hoj) (fun c a w h => h) (h1 w' hw')
    refine wpOp_mono (fun a' w'' h3 => ?_) h2
    obtain ⟨h4, h5⟩ := h3
    refine ⟨fun r hrl hrd => ?_, ?_⟩
    ·have hri : r ≠ i := fun e => by subst e; rw [hil.2] at hrd; cases hrd
     have h6 := h4 r hrl (getD_set_true hrd)
     cases hro : ops[r]? with
     | none => unfold JG qOp; simp [hro]
     | some ro =>
      obtain ⟨u, hyu, hu⟩ := yieldsIn_of_qOp hro h6
      have hd := hcond.done r ro hro hri hrd ⟨j, (Array.getElem?_eq_some_iff.1 hoj).1, hej, hrl⟩
      have hy2 : YieldsIn P ops (Cl w'') ro u a' := hyu.of_same (execOp_put ro (fun cs b => hsel r ro cs b hro) a' oi.dst v (fun d e => (hd d e).1)).symm (wanted_put ro a' oi.dst v (fun d e => (hd d e).1)).symm
      exact hy2.qOp hro (VG (fun d e => (hd d e).2) hu)
    ·have h6 := h4 i (hlt hej) (by simp [hil.1])
     obtain ⟨v', hyv, hv⟩ := yieldsIn_of_qOp hi h6
     have hy2 : YieldsIn P ops (Cl w'') oi v' a' := hyv.of_same (execOp_put oi (fun cs b => hsel i oi cs b hi) a' oi.dst v hself).symm (wanted_put oi a' oi.dst v hself).symm
     rw [Zae] at hv
     refine ih (listed.setIfInBounds j true) a' w'' v' hcl' hcond' hr' hy2 ?_
     rw [hv, Array.setIfInBounds_comm _ _ hji]
     exact h5
   ·rw [if_neg hej] at h1 ⊢
    have h2 := qOp_put hoj hap (fun cs b => hsel i oi cs b hi) (fun cs b => hsel j oj cs b hoj) hy h1
    refine qOp_mono (fun a' h3 => ih (listed.setIfInBounds j true) a' w v hcl' hcond' hr' h3.1 ?_) h2
    rw [Array.setIfInBounds_comm _ _ hji]
    exact h3.2
end
def opsAt (ops : Array Oper) (l : List Nat) : List Oper := l.filterMap (ops[·]?)
def ltOf (n : Nat) (anc : Array Nat) (es : Nat → Bool) (j : Nat) : List Nat :=
 (List.range n).filter fun r => !es r && !Ci anc j r && !Ci anc r j
def U_ (ops : Array Oper) (anc : Array Nat) (es : Nat → Bool) (lt : Nat → List Nat) (listed : Array Bool) (i : Nat) : Bool :=
 match ops[i]? with
 | none => false
 | some oi => (Region.ready .any ops listed).contains i && !es i && (match oi.dst with | some d => !(oi.looksAt ops).contains d | none => true) &&
  (List.range ops.size).all fun j => j == i || match ops[j]? with
   | none => true
   | some oj => if listed.getD j false then
     (List.range ops.size).all (fun k => !es k || !(lt k).contains j) || (match oi.dst with | some d => !(oj.looksAt ops).contains d && oj.dst != some d | none => true)
    else Ci anc j i || (oi.apart ops oj && (!es j || (lt j).contains i))
def YT (ops : Array Oper) (anc : Array Nat) (es : Nat → Bool) (lt : Nat → List Nat) : List Nat → Array Bool → Option (Array Bool)
 | [], listed => some listed
 | i :: rest, listed => if U_ ops anc es lt listed i then YT ops anc es lt rest (listed.setIfInBounds i true) else none
abbrev JS := List (List Nat × Option (Nat × List Nat))
def XK (ops : Array Oper) (anc : Array Nat) (es : Nat → Bool) (lt : Nat → List Nat) : JS → Array Bool → Bool
 | [], listed => (Region.ready .any ops listed).isEmpty
 | (seg, none) :: rest, listed => match YT ops anc es lt seg listed with
  | some l => XK ops anc es lt rest l
  | none => false
 | (seg, some (e, re)) :: rest, listed => match YT ops anc es lt seg listed with
  | some l => es e && (ops[e]?).isSome && (Region.ready .any ops l == [e]) && ((lt e).all fun r => !l.getD r false || re.contains r) && XK ops anc es lt rest (l.setIfInBounds e true)
  | none => false
def Xc : JS → Nat
 | [] => 0
 | (seg, none) :: rest => seg.length + Xc rest
 | (seg, some _) :: rest => seg.length + (Xc rest + 1)
def He : JS → List Nat
 | [] => []
 | (_, none) :: rest => He rest
 | (_, some (e, _)) :: rest => e :: He rest
def check (ops : Array Oper) (st : JS) : Bool :=
 let anc := Region.before ops
 let es := fun j => (He st).contains j
 let lt := ltOf ops.size anc es
 Region.noSelect ops && J_ ops anc && (Xc st == ops.size) && XK ops anc es lt st (Array.replicate ops.size false)
def RE (P : Program) (ops : Array Oper) (w : World) (a : Act) : List Oper → Prop
 | [] => True
 | o :: rest => wpQuiet P ops (fun w' => ∃ n, w' = w.drewN n) (fun a' => a' = a) [o] a ∧ RE P ops w a rest
def wpPlan (P : Program) (ops : Array Oper) (next : Act → World → Prop) : JS → Act → World → Prop
 | [], a, w => ∀ w', (∃ n, w' = w.drewN n) → next a w'
 | (seg, none) :: rest, a, w => wpQuiet P ops (fun w' => ∃ n, w' = w.drewN n) (fun a' => wpPlan P ops next rest a' w) (opsAt ops seg) a
 | (seg, some (e, re)) :: rest, a, w => wpQuiet P ops (fun w' => ∃ n, w' = w.drewN n) (fun a' => ∀ w', (∃ n, w' = w.drewN n) →
   wpList P ops (Exit.then (fun a'' w'' => RE P ops w'' a'' (opsAt ops re) ∧ wpPlan P ops next rest a'' w'') Qo) (opsAt ops [e]) a' w') (opsAt ops seg) a
section
variable {P : Program} {ops : Array Oper} {anc : Array Nat} {es : Nat → Bool} {lt : Nat → List Nat} {next : Act → World → Prop}
theorem Jv {listed : Array Bool} {i : Nat} (h : U_ ops anc es lt listed i = true) :
  ∃ oi, ops[i]? = some oi ∧ i ∈ Region.ready .any ops listed ∧ es i = false ∧ (∀ d, oi.dst = some d → d ∉ oi.looksAt ops) ∧ Cond ops anc es lt i oi listed := by
 unfold U_ at h
 cases hi : ops[i]? with
 | none => simp [hi] at h
 | some oi =>
  simp only [hi, Bool.and_eq_true, Bool.not_eq_true', List.all_eq_true, List.mem_range] at h
  obtain ⟨⟨⟨h1, h2⟩, h3⟩, h4⟩ := h
  refine ⟨oi, rfl, by simpa using h1, h2, fun d hd => by simpa [hd] using h3, ⟨fun j oj hoj hji hun => ?_, fun r ro hro hri hl hex d hd => ?_⟩⟩
  ·have hj := h4 j (Array.getElem?_eq_some_iff.1 hoj).1
   have hne : (j == i) = false := by simpa using hji
   simp only [hne, Bool.false_or, hoj, (YS hun).2, Bool.false_eq_true, if_false, Bool.or_eq_true, Bool.and_eq_true, Bool.not_eq_true'] at hj
   rcases hj with hj | ⟨ha, hl⟩
   ·exact .inl hj
   ·refine .inr ⟨ha, fun he => ?_⟩
    rcases hl with hl | hl
    ·rw [he] at hl; cases hl
    ·simpa using hl
  ·have hj := h4 r (Array.getElem?_eq_some_iff.1 hro).1
   have hne : (r == i) = false := by simpa using hri
   simp only [hne, Bool.false_or, hro, hl, if_true, Bool.or_eq_true, List.all_eq_true, List.mem_range, hd, Bool.and_eq_true, Bool.not_eq_true'] at hj
   obtain ⟨j, hjs, hej, hrj⟩ := hex
   rcases hj with hj | hj
   ·rcases hj j hjs with h5 | h5
    ·rw [hej] at h5; cases h5
    ·rw [List.contains_iff_mem.2 hrj] at h5; cases h5
   ·exact ⟨by simpa using hj.1, by simpa using hj.2⟩
theorem wpQuiet_mono {C : World → Prop} {Q Q' : Act → Prop} (h : ∀ a, Q a → Q' a) : ∀ (l : List Oper) (a : Act), wpQuiet P ops C Q l a → wpQuiet P ops C Q' l a
 | [], a, hh => h a hh
 | o :: l, a, hh => by
  unfold wpQuiet at *
  split
  ·rename_i hw; rw [if_pos hw] at hh; exact Oper.quiet_mono (fun a' => wpQuiet_mono h l a') hh
  ·rename_i hw; rw [if_neg hw] at hh; exact wpQuiet_mono h l _ hh
theorem YB (hsel : ∀ (j : Nat) (o : Oper) cs b, ops[j]? = some o → o.op ≠ .select cs b) (hanc : J_ ops anc = true) (fuel : Nat) (w : World) :
  ∀ (seg : List Nat) (listed l : Array Bool) (a : Act), YT ops anc es lt seg listed = some l → Closed ops listed →
   wpQuiet P ops (Cl w) (fun a' => Closed ops l → YE P ops es lt next fuel l a' w) (opsAt ops seg) a → YE P ops es lt next (seg.length + fuel) listed a w := by
 intro seg
 induction seg with
 | nil =>
  intro listed l a h hc hw
  simp only [YT, Option.some.injEq] at h
  subst h
  simp only [List.length_nil, Nat.zero_add]
  exact hw hc
 | cons i rest ih =>
  intro listed l a h hc hw
  simp only [YT] at h
  split at h
  ·rename_i ht
   obtain ⟨oi, hi, hr, hes, hself, hcond⟩ := Jv ht
   have hq : qOp P ops (Cl w) i (wpQuiet P ops (Cl w) (fun a' => Closed ops l → YE P ops es lt next fuel l a' w) (opsAt ops rest)) a := by
    simp only [opsAt, List.filterMap_cons, hi] at hw
    unfold qOp
    simp only [hi]
    exact hw
   obtain ⟨v, hy, hK⟩ := yieldsIn_of_qOp hi hq
   have := first hi hsel hanc hes hself (rest.length + fuel) listed a w v hc hcond hr hy (ih _ l _ h (hc.set hr) hK)
   rw [List.length_cons, show rest.length + 1 + fuel = rest.length + fuel + 1 by omega]
   exact this
  ·cases h
theorem Yx : ∀ (seg : List Nat) (listed l : Array Bool), YT ops anc es lt seg listed = some l → Closed ops listed → Closed ops l := by
 intro seg
 induction seg with
 | nil => intro listed l h hc; simp only [YT, Option.some.injEq] at h; subst h; exact hc
 | cons i rest ih =>
  intro listed l h hc
  simp only [YT] at h
  split at h
  ·rename_i ht
   obtain ⟨oi, hi, hr, _⟩ := Jv ht
   exact ih _ l h (hc.set hr)
  ·cases h
theorem Oper.wp_monoQ {o : Oper} {a : Act} {w : World} {K : Act → World → Prop} {Q Q' : Exit → Act → World → Prop} (h : ∀ e a w, e ≠ .normal → Q e a w → Q' e a w)
  (hh : o.wp P a w K Q) : o.wp P a w K Q' := by
 unfold Oper.wp at *
 generalize (execOp a.eval o).run P w = r at *
 cases r with
 | ok n w' =>
  cases n <;> simp only [Oper.upon] at hh ⊢ <;>
   first
    | exact hh
    | exact Calls.mono hh (fun e w'' he => by
      cases e
      ·exact he
      ·exact h _ _ _ (by simp) he
      ·exact he.imp fun a => Exists.imp fun w => h _ _ _ (by simp))
 | halt x w' => cases x <;> simp only [Oper.upon] at hh ⊢ <;> exact h _ _ _ (by simp) hh
theorem Ht {w : World} {a : Act} : ∀ (l : List Oper), RE P ops w a l → ∀ o ∈ l, wpQuiet P ops (Cl w) (fun a' => a' = a) [o] a
 | [], _, _, h => by cases h
 | o :: l, hh, o', h => by
  rcases List.mem_cons.1 h with rfl | h
  ·exact hh.1
  ·exact Ht l hh.2 o' h
theorem Hb (hsel : ∀ (j : Nat) (o : Oper) cs b, ops[j]? = some o → o.op ≠ .select cs b) (hanc : J_ ops anc = true) :
  ∀ (st : JS) (listed : Array Bool) (a : Act) (w : World), XK ops anc es lt st listed = true → Closed ops listed → wpPlan P ops next st a w → YE P ops es lt next (Xc st) listed a w := by
 intro st
 induction st with
 | nil =>
  intro listed a w h _ hw
  exact ⟨by simpa [XK] using h, hw⟩
 | cons s rest ih =>
  intro listed a w h hc hw
  obtain ⟨seg, oe⟩ := s
  cases oe with
  | none =>
   simp only [XK] at h
   split at h
   ·rename_i l hl
    refine YB hsel hanc (Xc rest) w seg listed l a hl hc ?_
    exact wpQuiet_mono (fun a' h' hc' => ih l a' w h hc' h') _ _ hw
   ·cases h
  | some er =>
   obtain ⟨e, re⟩ := er
   simp only [XK] at h
   split at h
   ·rename_i l hl
    simp only [Bool.and_eq_true, beq_iff_eq, List.all_eq_true, Bool.or_eq_true, Bool.not_eq_true'] at h
    obtain ⟨⟨⟨⟨hes, hsome⟩, hready⟩, hre⟩, hrest⟩ := h
    have hcl := Yx seg listed l hl hc
    obtain ⟨oe, hoe⟩ := Option.isSome_iff_exists.1 hsome
    refine YB hsel hanc (Xc rest + 1) w seg listed l a hl hc ?_
    refine wpQuiet_mono (fun a' h' _ => ⟨fun h0 => (by rw [hready] at h0; cases h0), fun j hj => ?_⟩) _ _ hw
    have hje : j = e := by rw [hready] at hj; simpa using hj
    subst hje
    rw [if_pos hes]
    intro w' hw'
    have h2 := h' w' hw'
    simp only [opsAt, List.filterMap_cons, hoe, List.filterMap_nil] at h2
    have hcl2 := hcl.set (j := j) (by rw [hready]; simp)
    have VR : ∀ a'' w'', (RE P ops w'' a'' (re.filterMap (ops[·]?)) ∧ wpPlan P ops next rest a'' w'') →
      ((∀ r ∈ lt j, l.getD r false = true → JG P ops w'' r a'') ∧ YE P ops es lt next (Xc rest) (l.setIfInBounds j true) a'' w'') := by
     rintro a'' w'' ⟨h3, h4⟩
     refine ⟨fun r hr hlr => ?_, ih _ a'' w'' hrest hcl2 h4⟩
     have hmem : r ∈ re := by
      rcases hre r hr with h5 | h5
      ·rw [hlr] at h5; cases h5
      ·simpa using h5
     unfold JG qOp
     cases hro : ops[r]? with
     | none => simp
     | some ro =>
      have := Ht _ h3 ro (List.mem_filterMap.2 ⟨r, hmem, hro⟩)
      exact this
    unfold wpOp
    simp only [hoe]
    simp only [wpList] at h2
    split
    ·rename_i hwant
     rw [if_pos hwant] at h2
     rcases h2 with h2 | ⟨_, h2⟩
     ·exact .inl (Oper.wp_mono (fun a'' w'' h3 => VR a'' w'' h3) (Oper.wp_monoQ (fun e a w hne h => by cases e <;> first | exact absurd rfl hne | exact h) h2))
     ·obtain ⟨_, _, h2⟩ := h2; exact h2.elim
    ·rename_i hwant
     rw [if_neg hwant] at h2
     exact VR _ _ h2
   ·cases h
theorem wp_plan {id : Nat} {Q : Exit → Act → World → Prop} {a : Act} {w : World} (st : JS) (hm : P.follows .mixedOrders = true) (hB : check ops st = true)
  (h : wpPlan P ops (fun a w => Q .normal a w) st a w) : (Code.region id ops true).wp P Q a w := by
 simp only [check, Bool.and_eq_true, beq_iff_eq] at hB
 obtain ⟨⟨⟨hs, hanc⟩, hlen⟩, hplan⟩ := hB
 have hcl : Closed ops (Array.replicate ops.size false) := by
  intro j o _ hj
  have : (Array.replicate ops.size false).getD j false = false := by
   rcases Nat.lt_or_ge j ops.size with h' | h'
   ·simp [h']
   ·simp [h']
  rw [this] at hj
  cases hj
 have h1 := Hb (next := fun a w => Q .normal a w) (Region.noSelect_spec hs) hanc st _ a w hplan hcl h
 rw [hlen] at h1
 have h2 := Xb _ _ _ _ h1 { w with drawn := w.drawn + 1 } ⟨1, rfl⟩
 refine wp_mono (Q := Qn (fun a w => Q .normal a w)) (wp_region_any hm h2) fun e a w hq => ?_
 cases e <;> first | exact hq | exact hq.elim
end
end Go.Plan
namespace Go.V
open Go
abbrev Fm := Nat → Value
def upd (F : Fm) (d : Nat) (v : Value) : Fm := fun t => bif Nat.beq t d then v else F t
def Zy (F : Fm) (d : Option Nat) (v : Value) : Fm := match d with | none => F | some d => upd F d v
def ZU (n : Nat) (F : Fm) : Act := ⟨Array.ofFn (fun i : Fin n => F i.val), []⟩
def ev (F : Fm) (x : Operand) : Value := match x with
 | .tmp t => F t
 | .const v => v
 | .global g => .pointer (some ⟨g, 0, none⟩)
 | .func f => .func (.func f) #[] #[]
def okX (n : Nat) (x : Operand) : Bool := match x with | .tmp t => Nat.blt t n | _ => true
def okD (n : Nat) (d : Option Nat) : Bool := match d with | some t => Nat.blt t n | none => true
def QC (n : Nat) (o : Oper) : Bool := o.op.operands.toList.all (okX n) && okD n o.dst
def XS (n : Nat) : List Oper → Bool | [] => true | o :: r => QC n o && XS n r
def Hx (n : Nat) : Code → Bool
 | .region _ ops _ => XS n ops.toList
 | .seq a b => Hx n a && Hx n b
 | .cond c a b => okX n c && Hx n a && Hx n b
 | .block _ c => Hx n c
 | .loop c => Hx n c
 | _ => true
theorem YL {a b : Nat} : Nat.blt a b = true ↔ a < b := by unfold Nat.blt; rw [Nat.ble_eq]; exact Iff.rfl
theorem Q6 (n : Nat) (F : Fm) (t : Nat) (h : t < n) : (ZU n F).tmps.getD t undef = F t := by
 simp [ZU, h]
theorem act_get? (n : Nat) (F : Fm) (t : Nat) (h : t < n) : (ZU n F).tmps[t]? = some (F t) := by
 simp [ZU, h]
theorem Up {n : Nat} {F : Fm} {x : Operand} (h : okX n x = true) : (ZU n F).eval x = ev F x := by
 cases x with
 | tmp t => exact Q6 n F t (YL.1 h)
 | const v => rfl
 | global g => rfl
 | func f => rfl
theorem ZZ (n : Nat) (F : Fm) (d : Option Nat) (v : Value) : (ZU n F).put d v = ZU n (Zy F d v) := by
 cases d with
 | none => rfl
 | some d =>
  simp only [Act.put, ZU, Zy, Act.mk.injEq, and_true]
  apply Array.ext
  ·simp
  ·intro i h1 h2
   simp only [Array.size_ofFn] at h2
   by_cases hd : d = i
   ·subst hd
    simp [upd]
   ·have hb : Nat.beq i d = false := by
     cases hq : Nat.beq i d with
     | true => exact absurd (Nat.eq_of_beq_eq_true hq).symm hd
     | false => rfl
    rw [Array.getElem_setIfInBounds_ne (by simpa using h2) hd]
    simp [upd, hb]
theorem UF (F : Fm) (d : Nat) : upd F d (F d) = F := by
 funext t
 unfold upd
 cases h : Nat.beq t d with
 | true => simp [Nat.eq_of_beq_eq_true h]
 | false => rfl
theorem XJ {F : Fm} {d : Nat} {v : Value} (h : F d = v) : upd F d v = F := by subst h; exact UF F d
structure Tab where
 ints : List (Nat × IntKind)
 strs : List Nat
 bools : List Nat
 ptrs : List Nat
 slices : List Nat
 /-- struct types: for each field the offset, the size in cells, whether it is a struct or an array -/
 flds : List (Nat × List (Nat × Nat × Bool))
 /-- types of one cell -/
 ones : List Nat
def lk {α : Type} : List (Nat × α) → Nat → Option α
 | [], _ => none
 | (t, a) :: r, x => bif Nat.beq x t then some a else lk r x
def mem : List Nat → Nat → Bool
 | [], _ => false
 | t :: r, x => bif Nat.beq x t then true else mem r x
def Cc {α : Type} : List α → Nat → Option α
 | [], _ => none
 | a :: _, 0 => some a
 | _ :: r, n + 1 => Cc r n
theorem Yo {α : Type} : ∀ (l : List α) (i : Nat), Cc l i = l[i]?
 | [], _ => by simp [Cc]
 | a :: _, 0 => by simp [Cc]
 | a :: r, n + 1 => by simp [Cc, Yo r n]
def Tab.fld (T : Tab) (t f : Nat) : Option (Nat × Nat × Bool) := match lk T.flds t with | some l => Cc l f | none => none
def YR (P : Program) (t : Nat) : Bool := match P.underlying t with | some (.struct _) => true | some (.array _ _) => true | _ => false
def X' (P : Program) (t f : Nat) (r : Nat × Nat × Bool) : Bool := match P.underlying t with
 | some (.struct fs) => match fs[f]? with
  | some fd => fd.offset == r.1 && (match P.info? fd.type with | some i => i.size == r.2.1 | none => false) && YR P fd.type == r.2.2 && (P.underlying fd.type).isSome && r.2.1 != 0
  | none => false
 | _ => false
def JM {α : Type} (p : Nat → α → Bool) : Nat → List α → Bool
 | _, [] => true
 | k, a :: r => p k a && JM p (k + 1) r
def Tab.chk (P : Program) (T : Tab) : Bool :=
 T.ints.all (fun x => match P.underlying x.1 with | some (.int k) => decide (k = x.2) | _ => false) &&
 T.strs.all (fun t => match P.underlying t with | some .string => true | _ => false) &&
 T.bools.all (fun t => match P.underlying t with | some .bool => true | _ => false) &&
 T.ptrs.all (fun t => match P.underlying t with | some (.pointer _) => true | _ => false) &&
 T.slices.all (fun t => match P.underlying t with | some (.slice _) => true | _ => false) &&
 T.flds.all (fun x => JM (fun f r => X' P x.1 f r) 0 x.2) &&
 T.flds.all (fun x => match P.underlying x.1 with | some (.struct fs) => fs.size == x.2.length | _ => false) &&
 T.ones.all (fun t => (P.underlying t).isSome && !YR P t && (match P.info? t with | some i => i.size == 1 | none => false))
class TabOk (P : Program) (T : outParam Tab) : Prop where
 chk : T.chk P = true
theorem Jo {α : Type} : ∀ (l : List (Nat × α)) (x : Nat) (a : α), lk l x = some a → (x, a) ∈ l
 | [], _, _, h => by simp [lk] at h
 | (t, b) :: r, x, a, h => by
  unfold lk at h
  cases hb : Nat.beq x t with
  | true =>
   simp [hb] at h
   have := Nat.eq_of_beq_eq_true hb
   subst this; subst h
   exact List.mem_cons_self
  | false =>
   simp [hb] at h
   exact List.mem_cons_of_mem _ (Jo r x a h)
theorem Xw : ∀ (l : List Nat) (x : Nat), mem l x = true → x ∈ l
 | [], _, h => by simp [mem] at h
 | t :: r, x, h => by
  unfold mem at h
  cases hb : Nat.beq x t with
  | true => rw [Nat.eq_of_beq_eq_true hb]; exact List.mem_cons_self
  | false => simp [hb] at h; exact List.mem_cons_of_mem _ (Xw r x h)
theorem Yt {α : Type} {p : Nat → α → Bool} : ∀ (l : List α) (k : Nat), JM p k l = true → ∀ i a, l[i]? = some a → p (k + i) a = true
 | [], _, _, i, a, hi => by simp at hi
 | b :: r, k, h, i, a, hi => by
  simp only [JM, Bool.and_eq_true] at h
  cases i with
  | zero => simp at hi; subst hi; simpa using h.1
  | succ i => simp at hi; have := Yt r (k + 1) h.2 i a hi; rw [show k + (i + 1) = k + 1 + i by omega]; exact this
section tab
variable {P : Program} {T : Tab} [hT : TabOk P T]
theorem Tab.parts : (∀ x ∈ T.ints, P.underlying x.1 = some (.int x.2)) ∧ (∀ t ∈ T.strs, P.underlying t = some .string) ∧ (∀ t ∈ T.bools, P.underlying t = some .bool) ∧
  (∀ t ∈ T.ptrs, ∃ e, P.underlying t = some (.pointer e)) ∧ (∀ t ∈ T.slices, ∃ e, P.underlying t = some (.slice e)) ∧
  (∀ x ∈ T.flds, JM (fun f r => X' P x.1 f r) 0 x.2 = true ∧ ∃ fs, P.underlying x.1 = some (.struct fs) ∧ fs.size = x.2.length) ∧
  (∀ t ∈ T.ones, (P.underlying t).isSome = true ∧ YR P t = false ∧ ∃ i, P.info? t = some i ∧ i.size = 1) := by
 have h := hT.chk
 simp only [Tab.chk, Bool.and_eq_true, List.all_eq_true] at h
 obtain ⟨⟨⟨⟨⟨⟨⟨h1, h2⟩, h3⟩, h4⟩, h5⟩, h6⟩, h6'⟩, h7⟩ := h
 refine ⟨fun x hx => ?_, fun x hx => ?_, fun x hx => ?_, fun x hx => ?_, fun x hx => ?_, fun x hx => ⟨h6 x hx, ?_⟩, fun x hx => ?_⟩
 ·have := h1 x hx; split at this <;> simp_all
 ·have := h2 x hx; split at this <;> simp_all
 ·have := h3 x hx; split at this <;> simp_all
 ·have := h4 x hx; split at this <;> simp_all
 ·have := h5 x hx; split at this <;> simp_all
 ·have := h6' x hx
  split at this
  ·rename_i fs hfs; exact ⟨fs, hfs, by simpa using this⟩
  ·cases this
 ·have := h7 x hx
  obtain ⟨⟨a, b⟩, c⟩ := this
  refine ⟨a, by simpa using b, ?_⟩
  split at c
  ·rename_i i hi; exact ⟨i, hi, by simpa using c⟩
  ·cases c
theorem Tab.int {t : Nat} {k : IntKind} (h : lk T.ints t = some k) : P.underlying t = some (.int k) := (Tab.parts (P := P) (T := T)).1 _ (Jo _ _ _ h)
theorem Tab.str {t : Nat} (h : mem T.strs t = true) : P.underlying t = some .string := (Tab.parts (P := P) (T := T)).2.1 _ (Xw _ _ h)
theorem Tab.bool_ {t : Nat} (h : mem T.bools t = true) : P.underlying t = some .bool := (Tab.parts (P := P) (T := T)).2.2.1 _ (Xw _ _ h)
theorem Tab.ptr {t : Nat} (h : mem T.ptrs t = true) : ∃ e, P.underlying t = some (.pointer e) := (Tab.parts (P := P) (T := T)).2.2.2.1 _ (Xw _ _ h)
theorem Tab.slice_ {t : Nat} (h : mem T.slices t = true) : ∃ e, P.underlying t = some (.slice e) := (Tab.parts (P := P) (T := T)).2.2.2.2.1 _ (Xw _ _ h)
theorem Tab.field_ {t f : Nat} {r : Nat × Nat × Bool} (h : T.fld t f = some r) :
  ∃ fs fd, P.underlying t = some (.struct fs) ∧ fs[f]? = some fd ∧ fd.offset = r.1 ∧ (∃ i, P.info? fd.type = some i ∧ i.size = r.2.1) ∧ YR P fd.type = r.2.2 ∧ (P.underlying fd.type).isSome = true ∧ r.2.1 ≠ 0 := by
 unfold Tab.fld at h
 cases hl : lk T.flds t with
 | none => simp [hl] at h
 | some l =>
  simp only [hl, Yo] at h
  have h1 := ((Tab.parts (P := P) (T := T)).2.2.2.2.2.1 _ (Jo _ _ _ hl)).1
  have h2 := Yt l 0 h1 f r h
  simp only [Nat.zero_add, X'] at h2
  split at h2
  ·rename_i fs hfs
   split at h2
   ·rename_i fd hfd
    simp only [Bool.and_eq_true, beq_iff_eq, bne_iff_ne, ne_eq] at h2
    obtain ⟨⟨⟨⟨a, b⟩, c⟩, d⟩, e⟩ := h2
    refine ⟨fs, fd, hfs, hfd, a, ?_, c, d, e⟩
    split at b
    ·rename_i i hi; exact ⟨i, hi, by simpa using b⟩
    ·cases b
   ·cases h2
  ·cases h2
theorem Tab.one {t : Nat} (h : mem T.ones t = true) : (P.underlying t).isSome = true ∧ YR P t = false ∧ ∃ i, P.info? t = some i ∧ i.size = 1 := (Tab.parts (P := P) (T := T)).2.2.2.2.2.2 _ (Xw _ _ h)
end tab
def frc (v : Value) : Option Value := match v with
 | .bool b => some (.bool b)
 | .int k n => some (.int k n)
 | .float k b => some (.float k b)
 | .complex k a b => some (.complex k a b)
 | .string s => some (.string s)
 | .pointer a => some (.pointer a)
 | .slice a n c => some (.slice a n c)
 | .map r => some (.map r)
 | .chan r => some (.chan r)
 | .func f a b => some (.func f a b)
 | .nilFunc => some .nilFunc
 | .iface t v => some (.iface t v)
 | .nilIface => some .nilIface
 | .agg cs => some (.agg cs)
 | .tuple vs => some (.tuple vs)
theorem CZ (v : Value) : frc v = some v := by cases v <;> rfl
def p2 (k : IntKind) (m : Nat) : Int := 2 ^ (min m k.bits)
def JB (op : BinOp) (k : IntKind) (a b : Int) : Int := match op with
 | .and => k.wrap ((BitVec.ofInt k.bits a &&& BitVec.ofInt k.bits b).toNat : Int)
 | .or => k.wrap ((BitVec.ofInt k.bits a ||| BitVec.ofInt k.bits b).toNat : Int)
 | .xor => k.wrap ((BitVec.ofInt k.bits a ^^^ BitVec.ofInt k.bits b).toNat : Int)
 | .andNot => k.wrap ((BitVec.ofInt k.bits a &&& ~~~BitVec.ofInt k.bits b).toNat : Int)
 | _ => 0
def Zes (op : BinOp) (k : IntKind) (a b : Int) : Option Value := match op with
 | .add => some (.int k (k.wrap (a + b)))
 | .sub => some (.int k (k.wrap (a - b)))
 | .mul => some (.int k (k.wrap (a * b)))
 | .quo => match b with | .ofNat (m + 1) => some (.int k (k.wrap (a.tdiv (.ofNat (m + 1))))) | _ => none
 | .rem => match b with | .ofNat (m + 1) => some (.int k (a.tmod (.ofNat (m + 1)))) | _ => none
 | .and => some (.int k (JB .and k a b))
 | .or => some (.int k (JB .or k a b))
 | .xor => some (.int k (JB .xor k a b))
 | .andNot => some (.int k (JB .andNot k a b))
 | .eql => some (.bool (decide (a = b)))
 | .neq => some (.bool (decide (a ≠ b)))
 | .lss => some (.bool (decide (a < b)))
 | .leq => some (.bool (decide (a ≤ b)))
 | .gtr => some (.bool (decide (b < a)))
 | .geq => some (.bool (decide (b ≤ a)))
 | _ => none
def Za8 (op : BinOp) (k : IntKind) (a b : Int) : Option Value := match op, b with
 | .shl, .ofNat m => some (.int k (k.wrap (a * p2 k m)))
 | .shr, .ofNat m => some (.int k (a / p2 k m))
 | _, _ => none
def HG (op : BinOp) : Bool := match op with | .shl => true | .shr => true | _ => false
def Zcq (op : BinOp) (a b : ByteArray) : Option Value := match op with
 | .eql => some (.bool (decide (a = b)))
 | .neq => some (.bool (decide (a ≠ b)))
 | .lss => some (.bool (Op.bytesLess a.toList b.toList))
 | .geq => some (.bool (!Op.bytesLess a.toList b.toList))
 | _ => none
def Vc (T : Tab) (op : BinOp) (t : Nat) (x y : Value) : Option Value := match x, y with
 | .int k a, .int k' b => bif HG op then Za8 op k a b else bif decide (k = k') then Zes op k a b else none
 | .string a, .string b => Zcq op a b
 | .bool a, .bool b => bif mem T.bools t then (match op with | .eql => some (.bool (a == b)) | .neq => some (.bool (!(a == b))) | _ => none) else none
 | .pointer a, .pointer none => bif mem T.ptrs t then (match op with | .eql => some (.bool a.isNone) | .neq => some (.bool (!a.isNone)) | _ => none) else none
 | _, _ => none
def unV (op : UnOp) (x : Value) : Option Value := match op, x with
 | .neg, .int k n => some (.int k (k.wrap (0 - n)))
 | .xor, .int k n => some (.int k (JB .xor k (if k.signed then -1 else k.max) n))
 | .not, .bool b => some (.bool (!b))
 | _, _ => none
def UI : List Value → Nat → Nat → List Value
 | _, _, 0 => []
 | [], _, _ + 1 => []
 | a :: r, 0, n + 1 => a :: UI r 0 n
 | _ :: r, k + 1, n + 1 => UI r k (n + 1)
theorem QQ : ∀ (l : List Value) (k n : Nat), UI l k n = (l.drop k).take n
 | _, _, 0 => by simp [UI]
 | [], _, _ + 1 => by simp [UI]
 | a :: r, 0, n + 1 => by simp [UI, QQ r 0 n]
 | a :: r, k + 1, n + 1 => by simp [UI, QQ r k (n + 1)]
def Vj (f : Nat × Nat × Bool) (cs : List Value) : Option Value :=
 bif f.2.2 then some (.agg (UI cs f.1 f.2.1).toArray) else (match Cc cs f.1 with | some v => frc v | none => none)
def lenV (T : Tab) (t : Nat) (x : Value) : Option Value := match x with
 | .slice _ n _ => bif mem T.slices t then some (.int .i64 n) else none
 | .string s => bif mem T.strs t then some (.int .i64 s.size) else none
 | _ => none
def mmV (mx : Bool) (xs : List Value) : Option Value := match xs with
 | [.int k a, .int _ b] => some (.int k (bif mx then max a b else min a b))
 | _ => none
def pv (T : Tab) (o : Oper) (F : Fm) : Option Value := match o.op with
 | .move x => frc (ev F x)
 | .assign x => frc (ev F x)
 | .pick c a b => match ev F c with | .bool true => frc (ev F a) | .bool false => frc (ev F b) | _ => none
 | .nilCheck x => match ev F x with | .pointer (some a) => some (.pointer (some a)) | _ => none
 | .binOp op t x y _ => Vc T op t (ev F x) (ev F y)
 | .unOp op _ x => unV op (ev F x)
 | .convert s d x => match ev F x with
  | .int _ n => match lk T.ints d with | some k => (match lk T.ints s with | some _ => some (.int k (k.wrap n)) | none => none) | none => none
  | .string b => bif mem T.strs d && mem T.strs s then some (.string b) else none
  | _ => none
 | .extract t i => match ev F t with | .tuple vs => (match Cc vs.toList i with | some v => frc v | none => none) | _ => none
 | .field t x f => match ev F x with | .agg cs => (match T.fld t f with | some r => Vj r cs.toList | none => none) | _ => none
 | .fieldAddr t x f => match ev F x with
  | .pointer (some ⟨b, off, none⟩) => (match T.fld t f with | some r => some (.pointer (some ⟨b, off + r.1, none⟩)) | none => none)
  | _ => none
 | .call c => match c.callee, c.args.toList, c.argTypes.toList with
  | .builtin .len, [x], [t] => lenV T t (ev F x)
  | .builtin .min, [x, y], _ => mmV false [ev F x, ev F y]
  | .builtin .max, [x, y], _ => mmV true [ev F x, ev F y]
  | _, _, _ => none
 | _ => none
def Yl (P : Program) (n : Nat) (o : Oper) (F : Fm) (v : Value) : Prop := ∀ w, (execOp (ZU n F).eval o).run P w = .ok (.value v) w
section pv
variable {P : Program} {T : Tab} [hT : TabOk P T] {n : Nat} {F : Fm}
theorem Xa {o : Oper} {x : Operand} (h : QC n o = true) (hx : x ∈ o.op.operands.toList) : (ZU n F).eval x = ev F x := by
 simp only [QC, Bool.and_eq_true, List.all_eq_true] at h
 exact Up (h.1 x hx)
theorem YX {t : Nat} (w : World) (hs : (P.underlying t).isSome = true) : (isAgg t).run P w = .ok (YR P t) w := by
 obtain ⟨d, hd⟩ := Option.isSome_iff_exists.1 hs
 unfold YR
 simp only [isAgg, Sem.run_bind, run_underlying hd, Result.andThen_ok, hd]
 cases d <;> rfl
theorem ZI {t m : Nat} (w : World) (h : ∃ i, P.info? t = some i ∧ i.size = m) : (sizeOf t).run P w = .ok m w := by
 obtain ⟨i, hi, rfl⟩ := h
 simp [sizeOf, typeInfo, hi]
theorem Cr {t : Nat} {r : Nat × Nat × Bool} {cs : Array Value} {v : Value} (w : World) (hs : (P.underlying t).isSome = true) (hz : ∃ i, P.info? t = some i ∧ i.size = r.2.1) (hg : YR P t = r.2.2)
  (h : Vj r cs.toList = some v) : (part t cs r.1).run P w = .ok v w := by
 unfold Vj at h
 simp only [part, Sem.run_bind, YX w hs, Result.andThen_ok, hg]
 cases hb : r.2.2 with
 | true =>
  simp only [hb, cond_true, Option.some.injEq] at h
  simp only [if_true, Sem.run_bind, ZI w hz, Result.andThen_ok, Sem.run_pure, ← h, QQ]
  congr 2
  apply Array.ext'
  simp [Array.toList_extract, List.extract_eq_take_drop]
 | false =>
  simp only [hb, cond_false, Yo] at h
  cases hc : cs[r.1]? with
  | none => simp [hc] at h
  | some u => simp [hc, CZ] at h; subst h; simp
theorem Zad {op : BinOp} {k : IntKind} {a b : Int} {v : Value} (t : Nat) (h : Zes op k a b = some v) (w : World) : (binOp op t (.int k a) (.int k b)).run P w = .ok v w := by
 cases op <;> simp only [Zes, Option.some.injEq, reduceCtorEq] at h <;> try subst h
 all_goals simp only [binOp, ne_eq, not_true_eq_false, if_false]
 all_goals try (simp [Op.intArith, Op.intBits, Op.intCmp, JB]; done)
 ·split at h
  ·rename_i m
   simp only [Option.some.injEq] at h; subst h
   have h0 : ¬ (Int.ofNat (m + 1) = 0) := by intro e; injection e with e; omega
   simp only [Op.intDiv, if_neg h0, Sem.run_pure]
  ·cases h
 ·split at h
  ·rename_i m
   simp only [Option.some.injEq] at h; subst h
   have h0 : ¬ (Int.ofNat (m + 1) = 0) := by intro e; injection e with e; omega
   simp only [Op.intDiv, if_neg h0, Sem.run_pure]
  ·cases h
 ·have : (a == b) = decide (a = b) := by rw [Bool.eq_iff_iff]; simp
  simp [Op.intCmp, this]
 ·have : (a != b) = decide (a ≠ b) := by rw [Bool.eq_iff_iff]; simp
  simp [Op.intCmp, this]
theorem Za4 (a : Int) (k : IntKind) (m : Nat) : a.fdiv (p2 k m) = a / p2 k m := Int.fdiv_eq_ediv_of_nonneg _ (by unfold p2; exact Int.le_of_lt (Int.pow_pos (by decide)))
theorem HY {op : BinOp} {k k' : IntKind} {a b : Int} {v : Value} (t : Nat) (hs : HG op = true) (h : Za8 op k a b = some v) (w : World) : (binOp op t (.int k a) (.int k' b)).run P w = .ok v w := by
 cases op <;> simp only [HG, Bool.false_eq_true] at hs
 all_goals
  cases b with
  | ofNat m =>
   simp only [Za8, Option.some.injEq] at h; subst h
   have h0 : ¬ (Int.ofNat m < 0) := by simp
   simp only [binOp, Op.shift, if_neg h0, Sem.run_pure]
   first | rfl | (rw [← Za4]; rfl)
  | negSucc m => simp [Za8] at h
theorem J' (a b : ByteArray) : (a.toList == b.toList) = decide (a = b) := by
 rw [Bool.eq_iff_iff]
 simp only [beq_iff_eq, decide_eq_true_eq, ByteArray.toList_eq]
 constructor
 ·intro h
  cases a; cases b
  simp only [ByteArray.mk.injEq]
  exact Array.ext' h
 ·rintro rfl; rfl
theorem Zbu {op : BinOp} {a b : ByteArray} {v : Value} (t : Nat) (h : Zcq op a b = some v) (w : World) : (binOp op t (.string a) (.string b)).run P w = .ok v w := by
 cases op <;> simp only [Zcq, Option.some.injEq, reduceCtorEq] at h <;> try subst h
 ·simp [binOp, Op.stringOp, J']
 ·simp [binOp, Op.stringOp, J']
 ·simp [binOp, Op.stringOp]
 ·simp [binOp, Op.stringOp]
theorem Za2 {op : BinOp} {t : Nat} {x y v : Value} (h : Vc T op t x y = some v) (w : World) : (binOp op t x y).run P w = .ok v w := by
 unfold Vc at h
 split at h
 ·cases hs : HG op with
  | true => simp only [hs, cond_true] at h; exact HY t hs h w
  | false =>
   simp only [hs, cond_false] at h
   rename_i k a k' b
   by_cases hk : k = k'
   ·subst hk; simp at h; exact Zad t h w
   ·simp [hk] at h
 ·exact Zbu t h w
 ·rename_i a b
  cases hm : mem T.bools t with
  | false => simp [hm] at h
  | true =>
   simp only [hm, cond_true] at h
   have hu : P.underlying t = some .bool := Tab.bool_ hm
   have hE : ∀ d : Nat, (Op.equalIn (d + 1) t (.bool a) (.bool b)).run P w = .ok (a == b) w := fun d => by
    simp [Op.equalIn, run_underlying hu]
   have hE2 : (Op.equal t (.bool a) (.bool b)).run P w = .ok (a == b) w := hE 9999
   split at h <;> simp only [Option.some.injEq, reduceCtorEq] at h <;> subst h <;> simp only [binOp, Sem.run_bind, hE2, Result.andThen_ok, Sem.run_pure]
 ·rename_i a
  cases hm : mem T.ptrs t with
  | false => simp [hm] at h
  | true =>
   simp only [hm, cond_true] at h
   obtain ⟨e, hu⟩ := Tab.ptr (P := P) hm
   have hE : ∀ d : Nat, (Op.equalIn (d + 1) t (.pointer a) (.pointer none)).run P w = .ok a.isNone w := fun d => by
    cases a <;> simp [Op.equalIn, run_underlying hu]
   have hE2 : (Op.equal t (.pointer a) (.pointer none)).run P w = .ok a.isNone w := hE 9999
   split at h <;> simp only [Option.some.injEq, reduceCtorEq] at h <;> subst h <;> simp only [binOp, Sem.run_bind, hE2, Result.andThen_ok, Sem.run_pure]
 ·cases h
omit hT in
theorem Hh {op : BinOp} {t : Nat} {x y : Operand} {a b v : Value} (h : Vc T op t a b = some v) (w : World) : (eqGuard op t x y a b).run P w = .ok () w := by
 unfold Vc at h
 split at h
 all_goals try (cases op <;> simp [eqGuard]; done)
 cases h
theorem Zd5 {op : UnOp} {x v : Value} (h : unV op x = some v) (w : World) : (Op.unary op x).run P w = .ok v w := by
 unfold unV at h
 split at h <;> simp only [Option.some.injEq, reduceCtorEq] at h
 ·subst h; simp [Op.unary, Op.intArith]
 ·subst h; simp [Op.unary, Op.intBits, JB]
 ·subst h; simp [Op.unary]
theorem CR {o : Oper} {v : Value} (h : pv T o F = some v) (hok : QC n o = true) : Yl P n o F v := by
 intro w
 obtain ⟨dst, op, ty, pos, after, guard⟩ := o
 have E := fun (x : Operand) (hx : x ∈ op.operands.toList) => Xa (F := F) hok hx
 cases op <;> simp only [pv, reduceCtorEq, CZ, Option.some.injEq] at h <;> simp only [execOp]
 case move x => rw [E x (by simp [Op.operands]), h]; simp
 case assign x => rw [E x (by simp [Op.operands]), h]; simp
 case pick c a b =>
  rw [E c (by simp [Op.operands]), E a (by simp [Op.operands]), E b (by simp [Op.operands])]
  split at h <;> simp only [Option.some.injEq, reduceCtorEq] at h
  ·rename_i hc; rw [hc, h]; simp [asBool]
  ·rename_i hc; rw [hc, h]; simp [asBool]
 case nilCheck x =>
  rw [E x (by simp [Op.operands])]
  split at h <;> simp only [Option.some.injEq, reduceCtorEq] at h
  rename_i a hx; rw [hx, ← h]; simp
 case binOp op t x y yt =>
  rw [E x (by simp [Op.operands]), E y (by simp [Op.operands])]
  simp only [Sem.run_bind, Hh h, Za2 h, Result.andThen_ok, Sem.run_pure]
 case unOp op t x =>
  rw [E x (by simp [Op.operands])]
  simp only [Sem.run_bind, Zd5 h, Result.andThen_ok, Sem.run_pure]
 case convert s d x =>
  rw [E x (by simp [Op.operands])]
  split at h
  ·rename_i k' m hx
   rw [hx]
   cases hd : lk T.ints d with
   | none => simp [hd] at h
   | some k =>
    cases hs : lk T.ints s with
    | none => simp [hd, hs] at h
    | some k2 =>
     simp only [hd, hs, Option.some.injEq] at h
     have h1 : P.underlying d = some (.int k) := Tab.int hd
     have h2 : P.underlying s = some (.int k2) := Tab.int hs
     subst h
     simp [convert, run_underlying h1, run_underlying h2, Conv.intToInt]
  ·rename_i b hx
   rw [hx]
   cases hm : (mem T.strs d && mem T.strs s) with
   | false => simp [hm] at h
   | true =>
    simp only [hm, cond_true, Option.some.injEq] at h
    simp only [Bool.and_eq_true] at hm
    have h1 : P.underlying d = some .string := Tab.str hm.1
    have h2 : P.underlying s = some .string := Tab.str hm.2
    subst h
    simp [convert, run_underlying h1, run_underlying h2]
  ·cases h
 case extract t i =>
  rw [E t (by simp [Op.operands])]
  split at h
  ·rename_i vs ht
   rw [ht]
   simp only [Yo] at h
   cases hv : vs[i]? with
   | none => simp [hv] at h
   | some u => simp [hv] at h; subst h; simp [Instr.extract, hv]
  ·cases h
 case field t x f =>
  rw [E x (by simp [Op.operands])]
  split at h
  ·rename_i cs hx
   rw [hx]
   cases hr : T.fld t f with
   | none => simp [hr] at h
   | some r =>
    simp only [hr] at h
    obtain ⟨fs, fd, h1, h2, h3, h4, h5, h6, h7⟩ := Tab.field_ (P := P) hr
    have hp := Cr (P := P) w h6 h4 h5 h
    simp only [Sem.run_bind, Instr.field, run_underlying h1, Result.andThen_ok, h2, asAgg, Sem.run_pure, h3, hp]
  ·cases h
 case fieldAddr t x f =>
  rw [E x (by simp [Op.operands])]
  split at h
  ·rename_i b off hx
   rw [hx]
   cases hr : T.fld t f with
   | none => simp [hr] at h
   | some r =>
    simp only [hr, Option.some.injEq] at h
    obtain ⟨fs, fd, h1, h2, h3, ⟨i, hi, hz⟩, h5, h6, h7⟩ := Tab.field_ (P := P) hr
    have hsz : ¬ i.size = 0 := by rw [hz]; exact h7
    have hadd : (⟨b, off, none⟩ : Addr).add r.1 = ⟨b, off + r.1, none⟩ := by unfold Addr.add; split <;> simp_all
    subst h
    simp [Instr.fieldAt, run_underlying h1, h2, Instr.sureAddr, fieldPlace, sizeOf, typeInfo, hi, hsz, h3, hadd]
  ·cases h
 case call c =>
  obtain ⟨callee, args, argTypes⟩ := c
  simp only at h
  split at h
  ·rename_i x t harg hty
   obtain rfl : args = #[x] := by apply Array.ext'; simpa using harg
   obtain rfl : argTypes = #[t] := by apply Array.ext'; simpa using hty
   have e1 := E x (by simp [Op.operands, Call.operands])
   unfold lenV at h
   split at h
   ·rename_i a m c hx
    cases hm : mem T.slices t with
    | false => simp [hm] at h
    | true =>
     simp only [hm, cond_true, Option.some.injEq] at h
     obtain ⟨el, hu⟩ := Tab.slice_ (P := P) hm
     subst h
     simp [resolve, invoke, builtin, Builtin.len_, e1, hx, run_underlying hu, goInt]
   ·rename_i b hx
    cases hm : mem T.strs t with
    | false => simp [hm] at h
    | true =>
     simp only [hm, cond_true, Option.some.injEq] at h
     have hu : P.underlying t = some .string := Tab.str hm
     subst h
     simp [resolve, invoke, builtin, Builtin.len_, e1, hx, run_underlying hu, goInt]
   ·cases h
  ·rename_i x y harg
   obtain rfl : args = #[x, y] := by apply Array.ext'; simpa using harg
   have e1 := E x (by simp [Op.operands, Call.operands])
   have e2 := E y (by simp [Op.operands, Call.operands])
   unfold mmV at h
   split at h
   ·rename_i hl
    injection hl with q1 q2
    injection q2 with q2 _
    simp only [cond_false, Option.some.injEq] at h
    subst h
    simp [resolve, invoke, builtin, Builtin.min_, Builtin.min2, e1, q1, e2, q2]
    omega
   ·cases h
  ·rename_i x y harg
   obtain rfl : args = #[x, y] := by apply Array.ext'; simpa using harg
   have e1 := E x (by simp [Op.operands, Call.operands])
   have e2 := E y (by simp [Op.operands, Call.operands])
   unfold mmV at h
   split at h
   ·rename_i hl
    injection hl with q1 q2
    injection q2 with q2 _
    simp only [cond_true, Option.some.injEq] at h
    subst h
    simp [resolve, invoke, builtin, Builtin.max_, Builtin.max2, e1, q1, e2, q2]
    omega
   ·cases h
  ·cases h
end pv
end Go.V
namespace Go.V
open Go
def ldO (T : Tab) (o : Oper) (F : Fm) : Option Addr := match o.op with
 | .load t x => match ev F x with | .pointer (some a) => bif mem T.ones t then some a else none | _ => none
 | _ => none
def run (T : Tab) : Nat → List Oper → List Value → Fm → Option (List Oper × Fm × List (Addr × Value))
 | 0, l, _, F => some (l, F, [])
 | _ + 1, [], _, F => some ([], F, [])
 | k + 1, o :: r, vs, F => match o.guard with
  | some _ => none
  | none => match ldO T o F with
   | some a => match vs with
    | [] => none
    | v :: vs' => match run T k r vs' (Zy F o.dst v) with
     | some (l, F', ob) => some (l, F', (a, v) :: ob)
     | none => none
   | none => match pv T o F with
    | some v => run T k r vs (Zy F o.dst v)
    | none => none
def obs (w : World) : List (Addr × Value) → Prop
 | [] => True
 | [(a, v)] => w.cell? a = some v
 | (a, v) :: r => w.cell? a = some v ∧ obs w r
theorem CE {w : World} {a : Addr} {v : Value} {r : List (Addr × Value)} (h : obs w ((a, v) :: r)) : w.cell? a = some v ∧ obs w r := by
 cases r with
 | nil => exact ⟨h, trivial⟩
 | cons b r => exact h
section
variable {P : Program} {T : Tab} [hT : TabOk P T] {n : Nat}
theorem Hq {o : Oper} {F : Fm} {a : Addr} {v : Value} {w : World} (h : ldO T o F = some a) (hok : QC n o = true) (hc : w.cell? a = some v) : (execOp (ZU n F).eval o).run P w = .ok (.value v) w := by
 obtain ⟨dst, op, ty, pos, after, guard⟩ := o
 unfold ldO at h
 cases op <;> simp only [reduceCtorEq] at h
 case load t x =>
  have e := Xa (F := F) hok (x := x) (by simp [Op.operands])
  split at h
  ·rename_i a' hx
   cases hm : mem T.ones t with
   | false => simp [hm] at h
   | true =>
    simp only [hm, cond_true, Option.some.injEq] at h
    subst h
    obtain ⟨h1, h2, h3⟩ := Tab.one (P := P) hm
    have hl : (load a').run P w = .ok v w := by simp [load, Sem.run, hc]
    simp only [execOp, e, hx, Instr.loadAt, Instr.sureAddr, loadVar, Sem.run_bind, Sem.run_pure, Result.andThen_ok, YX w h1, h2, Bool.false_eq_true, if_false, hl]
  ·cases h
theorem ZG {o : Oper} {r : List Oper} (h : XS n (o :: r) = true) : QC n o = true ∧ XS n r = true := by
 simpa [XS] using h
theorem H_ : ∀ (k : Nat) (l : List Oper) (vs : List Value) (F : Fm) (l' : List Oper) (F' : Fm) (ob : List (Addr × Value)), run T k l vs F = some (l', F', ob) → XS n l = true → XS n l' = true := by
 intro k
 induction k with
 | zero => intro l vs F l' F' ob h hok; simp [run] at h; obtain ⟨rfl, _⟩ := h; exact hok
 | succ k ih =>
  intro l vs F l' F' ob h hok
  cases l with
  | nil => simp [run] at h; obtain ⟨rfl, _⟩ := h; rfl
  | cons o r =>
   obtain ⟨_, h2⟩ := ZG hok
   simp only [run] at h
   split at h
   ·cases h
   ·split at h
    ·split at h
     ·cases h
     ·split at h
      ·rename_i hh
       simp only [Option.some.injEq, Prod.mk.injEq] at h
       obtain ⟨rfl, rfl, rfl⟩ := h
       exact ih _ _ _ _ _ _ hh h2
      ·cases h
    ·split at h
     ·exact ih _ _ _ _ _ _ h h2
     ·cases h
end
abbrev DD := Nat → List (Nat × Bool)
def UK (D : DD) (d : Nat) (c : List (Nat × Bool)) : DD := fun t => bif Nat.beq t d then c else D t
def CB : List (Nat × Bool) → Nat → Bool → Bool
 | [], _, _ => false
 | (t, b) :: r, s, c => bif Nat.beq t s && (b == c) then true else CB r s c
def Ha : List (Nat × Bool) → List (Nat × Bool) → Bool
 | [], _ => true
 | (s, b) :: r, c => CB c s b && Ha r c
def okG (D : DD) (c : List (Nat × Bool)) (x : Operand) : Bool := match x with | .tmp t => Ha (D t) c | _ => true
def C7 (D : DD) (c : List (Nat × Bool)) : List Operand → Bool
 | [] => true
 | x :: r => okG D c x && C7 D c r
def Hc (G : Fm) : List (Nat × Bool) → Prop
 | [] => True
 | (s, b) :: r => G s = .bool b ∧ Hc G r
def Zab (w : World) : List (Prop × Addr × Value) → Prop
 | [] => True
 | [p] => p.1 → w.cell? p.2.1 = some p.2.2
 | p :: r => (p.1 → w.cell? p.2.1 = some p.2.2) ∧ Zab w r
structure LW (P : Program) (ops : Array Oper) (w : World) (W : List Oper → Act → Prop) : Prop where
 yes : ∀ o r a v, Region.wanted o (yielded ops a.tmps) = true → (∀ w', (∀ b, w'.cell? b = w.cell? b) → (execOp a.eval o).run P w' = .ok (.value v) w') → W r (a.put o.dst v) → W (o :: r) a
 no : ∀ o r a, Region.wanted o (yielded ops a.tmps) = false → W r (a.put o.dst undef) → W (o :: r) a
theorem LW.list {P : Program} {ops : Array Oper} {Q : Exit → Act → World → Prop} {w : World} : LW P ops w (fun l a => wpList P ops Q l a w) :=
 ⟨fun o r a v hw hr h => by
  show wpList P ops Q (o :: r) a w
  unfold wpList
  rw [if_pos hw]
  refine .inl ?_
  unfold Oper.wp
  rw [hr w (fun _ => rfl), Oper.upon_value]
  exact h, fun o r a hw h => by
  show wpList P ops Q (o :: r) a w
  unfold wpList
  rw [if_neg (by simp [hw])]
  exact h⟩
theorem LW.quiet {P : Program} {ops : Array Oper} {Q : Act → Prop} {w : World} : LW P ops w (wpQuiet P ops (fun w' => ∃ n, w' = w.drewN n) Q) :=
 ⟨fun o r a v hw hr h => by
  unfold wpQuiet
  rw [if_pos hw]
  refine ⟨v, ?_, h⟩
  rintro _ ⟨m, rfl⟩
  unfold Oper.quietAt
  rw [hr (w.drewN m) (fun _ => rfl)]
  exact ⟨rfl, rfl⟩, fun o r a hw h => by
  unfold wpQuiet
  rw [if_neg (by simp [hw])]
  exact h⟩
def YD (os : List Oper) (j : Nat) : Option Nat := match Cc os j with | some o => o.dst | none => none
def Vt (os : List Oper) (G : Fm) (D : DD) (o : Oper) : Option (List (Nat × Bool)) := match o.guard with
 | none => some []
 | some (j, want) => match YD os j with
  | none => none
  | some s => match G s with
   | .bool _ => some ((s, want) :: D s)
   | _ => none
def Yn : List (Nat × Bool) → List Nat
 | [] => []
 | (s, _) :: r => s :: Yn r
def Zcd (c a b : Value) : Option Value := match c, a, b with
 | .bool t, .bool x, .bool y => some (.bool (bif t then x else y))
 | _, _, _ => none
def Zc2 (T : Tab) (G : Fm) (D : DD) (C : List (Nat × Bool)) (o : Oper) (vs : List Value) : Option (Value × List Value × List (Prop × Addr × Value)) := match o.op with
 | .pick (.tmp c) a b => bif Ha (D c) C && okG D ((c, true) :: C) a && okG D ((c, false) :: C) b then
   (match Zcd (G c) (ev G a) (ev G b) with | some v => some (v, vs, []) | none => none) else none
 | .load t x => bif okG D C x && mem T.ones t then (match ev G x, vs with
   | .pointer (some a), v :: vs' => some (v, vs', [(Hc G C, a, v)])
   | _, _ => none) else none
 | _ => bif C7 D C o.op.operands.toList then (match pv T o G with | some v => some (v, vs, []) | none => none) else none
def runG (T : Tab) (os : List Oper) : Nat → List Oper → List Value → Fm → DD → List Nat → Option (List Oper × Fm × DD × List (Prop × Addr × Value))
 | 0, l, _, G, D, _ => some (l, G, D, [])
 | _ + 1, [], _, G, D, _ => some ([], G, D, [])
 | k + 1, o :: r, vs, G, D, U => match o.dst, Vt os G D o with
  | some d, some C => match Zc2 T G D C o vs with
   | some (v, vs', ob) => bif mem (Yn C ++ U) d then none else
    match runG T os k r vs' (upd G d v) (UK D d C) (Yn C ++ U) with
    | some (l, G', D', ob') => some (l, G', D', ob ++ ob')
    | none => none
   | none => none
  | _, _ => none
def D0 : DD := fun _ => []
def ovr (D : DD) (G j : Fm) : Fm := fun t => match D t with | [] => G t | _ :: _ => j t
structure Rel (G : Fm) (D : DD) (U : List Nat) (R : Fm) : Prop where
 yes : ∀ t, Hc G (D t) → R t = G t
 no : ∀ t, ¬ Hc G (D t) → R t = undef
 sl : ∀ t s b, (s, b) ∈ D t → s ∈ U
theorem QI {G : Fm} : ∀ {c : List (Nat × Bool)}, Hc G c ↔ ∀ s b, (s, b) ∈ c → G s = .bool b
 | [] => by simp [Hc]
 | (s, b) :: r => by
  simp only [Hc, List.mem_cons, Prod.mk.injEq, QI (c := r)]
  constructor
  ·rintro ⟨h1, h2⟩ s' b' (⟨rfl, rfl⟩ | h)
   ·exact h1
   ·exact h2 _ _ h
  ·intro h; exact ⟨h _ _ (.inl ⟨rfl, rfl⟩), fun s' b' h' => h _ _ (.inr h')⟩
theorem Uv : ∀ (c : List (Nat × Bool)) (s : Nat) (b : Bool), CB c s b = true → (s, b) ∈ c
 | [], _, _, h => by simp [CB] at h
 | (t, x) :: r, s, b, h => by
  unfold CB at h
  cases hh : (Nat.beq t s && (x == b)) with
  | true =>
   simp only [Bool.and_eq_true, beq_iff_eq] at hh
   rw [Nat.eq_of_beq_eq_true hh.1, hh.2]; exact List.mem_cons_self
  | false => simp [hh] at h; exact List.mem_cons_of_mem _ (Uv r s b h)
theorem Qx : ∀ (a c : List (Nat × Bool)), Ha a c = true → ∀ s b, (s, b) ∈ a → (s, b) ∈ c
 | [], _, _, _, _, hm => by cases hm
 | (s, b) :: r, c, h, s', b', hm => by
  simp only [Ha, Bool.and_eq_true] at h
  rcases List.mem_cons.1 hm with he | hm
  ·injection he with e1 e2; subst e1; subst e2; exact Uv _ _ _ h.1
  ·exact Qx r c h.2 _ _ hm
theorem Cp {G : Fm} {a c : List (Nat × Bool)} (h : Ha a c = true) (hc : Hc G c) : Hc G a :=
 QI.2 fun s b hm => QI.1 hc s b (Qx _ _ h s b hm)
theorem CG {G : Fm} {d : Nat} {v : Value} {c : List (Nat × Bool)} (h : ∀ s b, (s, b) ∈ c → s ≠ d) : Hc (upd G d v) c ↔ Hc G c := by
 simp only [QI]
 have e : ∀ s b, (s, b) ∈ c → upd G d v s = G s := fun s b hm => by
  unfold upd
  cases hb : Nat.beq s d with
  | true => exact absurd (Nat.eq_of_beq_eq_true hb) (h s b hm)
  | false => rfl
 exact ⟨fun hh s b hm => by rw [← e s b hm]; exact hh s b hm, fun hh s b hm => by rw [e s b hm]; exact hh s b hm⟩
theorem JO : ∀ (c : List (Nat × Bool)) (s : Nat) (b : Bool), (s, b) ∈ c → s ∈ Yn c
 | [], _, _, h => by cases h
 | (t, x) :: r, s, b, h => by
  rcases List.mem_cons.1 h with he | hm
  ·injection he with e1 _; subst e1; simp [Yn]
  ·simp [Yn, JO r s b hm]
theorem J5 : ∀ (l : List Nat) (x : Nat), x ∈ l → mem l x = true
 | [], _, h => by cases h
 | t :: r, x, h => by
  unfold mem
  rcases List.mem_cons.1 h with rfl | h
  ·simp
  ·simp [J5 r x h]
section
variable {P : Program} {T : Tab} [hT : TabOk P T] {n : Nat}
theorem LW.val {ops : Array Oper} {w : World} {W : List Oper → Act → Prop} (hW : LW P ops w W) {o : Oper} {r : List Oper} {F : Fm} {v : Value} (hg : o.guard = none)
  (hr : ∀ w', (∀ b, w'.cell? b = w.cell? b) → (execOp (ZU n F).eval o).run P w' = .ok (.value v) w') (h : W r (ZU n (Zy F o.dst v))) : W (o :: r) (ZU n F) :=
 hW.yes o r _ v (by simp [Region.wanted, hg]) hr (by rw [ZZ]; exact h)
theorem LW.runs {ops : Array Oper} {w : World} {W : List Oper → Act → Prop} (hW : LW P ops w W) : ∀ (k : Nat) (l : List Oper) (vs : List Value) (F : Fm) (l' : List Oper) (F' : Fm) (ob : List (Addr × Value)),
  run T k l vs F = some (l', F', ob) → XS n l = true → obs w ob → W l' (ZU n F') → W l (ZU n F) := by
 intro k
 induction k with
 | zero => intro l vs F l' F' ob h _ _ hk; simp [run] at h; obtain ⟨rfl, rfl, _⟩ := h; exact hk
 | succ k ih =>
  intro l vs F l' F' ob h hok hob hk
  cases l with
  | nil => simp [run] at h; obtain ⟨rfl, rfl, _⟩ := h; exact hk
  | cons o r =>
   obtain ⟨h1, h2⟩ := ZG hok
   simp only [run] at h
   split at h
   ·cases h
   ·rename_i hg
    split at h
    ·rename_i a ha
     split at h
     ·cases h
     ·rename_i v vs'
      split at h
      ·rename_i l2 F2 ob2 hh
       simp only [Option.some.injEq, Prod.mk.injEq] at h
       obtain ⟨rfl, rfl, rfl⟩ := h
       obtain ⟨hc, hob'⟩ := CE hob
       exact hW.val hg (fun w' hw' => Hq ha h1 ((hw' _).trans hc)) (ih _ _ _ _ _ _ hh h2 hob' hk)
      ·cases h
    ·split at h
     ·rename_i v hv
      exact hW.val hg (fun w' _ => CR hv h1 w') (ih _ _ _ _ _ _ h h2 hob hk)
     ·cases h
theorem UQ {D : DD} {C : List (Nat × Bool)} : ∀ (l : List Operand), C7 D C l = true → ∀ x ∈ l, okG D C x = true
 | [], _, _, h => by cases h
 | y :: r, h, x, hm => by
  simp only [C7, Bool.and_eq_true] at h
  rcases List.mem_cons.1 hm with rfl | hm
  ·exact h.1
  ·exact UQ r h.2 x hm
theorem Uf {G R : Fm} {D : DD} {U : List Nat} {C : List (Nat × Bool)} {x : Operand} (hR : Rel G D U R) (hC : Hc G C) (h : okG D C x = true) : ev R x = ev G x := by
 cases x with
 | tmp t => exact hR.yes t (Cp h hC)
 | const v => rfl
 | global g => rfl
 | func f => rfl
theorem Q3 {o : Oper} {ρ ρ' : Operand → Value} (h : ∀ x ∈ o.op.operands.toList, ρ x = ρ' x) (hp : ∃ v F, pv T o F = some v) : execOp ρ o = execOp ρ' o := by
 obtain ⟨v, F, hv⟩ := hp
 obtain ⟨dst, op, ty, pos, after, guard⟩ := o
 cases op <;> simp only [pv, reduceCtorEq] at hv <;> simp only [Op.operands] at h <;> simp only [execOp]
 case move x => rw [h x (by simp)]
 case assign x => rw [h x (by simp)]
 case pick a b c => rw [h a (by simp), h b (by simp), h c (by simp)]
 case nilCheck x => rw [h x (by simp)]
 case binOp op t x y yt => rw [h x (by simp), h y (by simp)]
 case unOp op t x => rw [h x (by simp)]
 case convert s d x => rw [h x (by simp)]
 case extract t i => rw [h t (by simp)]
 case field t x f => rw [h x (by simp)]
 case fieldAddr t x f => rw [h x (by simp)]
 case call c =>
  obtain ⟨callee, args, argTypes⟩ := c
  cases callee with
  | builtin b =>
   have e : args.map ρ = args.map ρ' := by
    apply Array.map_congr_left
    intro x hx
    exact h x (by simp [Call.operands, hx])
   simp only [resolve, e]
  | value f => simp at hv
  | invoke r nm => simp at hv
theorem Hy {o : Oper} {G R : Fm} {v : Value} {w : World} (hok : QC n o = true) (h : ∀ x ∈ o.op.operands.toList, ev R x = ev G x) (hv : pv T o G = some v) : (execOp (ZU n R).eval o).run P w = .ok (.value v) w := by
 have e := Q3 (T := T) (o := o) (ρ := (ZU n R).eval) (ρ' := (ZU n G).eval) (fun x hx => by rw [Xa hok hx, Xa hok hx]; exact h x hx) ⟨v, G, hv⟩
 rw [e]
 exact CR hv hok w
theorem Zaj {o : Oper} {G R : Fm} {D : DD} {U : List Nat} {C : List (Nat × Bool)} {vs vs' : List Value} {v : Value} {ob : List (Prop × Addr × Value)} {w : World} (hok : QC n o = true) (hR : Rel G D U R) (hC : Hc G C)
  (h : Zc2 T G D C o vs = some (v, vs', ob)) (hob : ∀ p ∈ ob, p.1 → w.cell? p.2.1 = some p.2.2) : (execOp (ZU n R).eval o).run P w = .ok (.value v) w := by
 unfold Zc2 at h
 split at h
 ·rename_i c a b hop
  cases hc : (Ha (D c) C && okG D ((c, true) :: C) a && okG D ((c, false) :: C) b) with
  | false => simp [hc] at h
  | true =>
   simp only [hc, cond_true] at h
   simp only [Bool.and_eq_true] at hc
   obtain ⟨⟨h1, h2⟩, h3⟩ := hc
   have hcc : R c = G c := hR.yes c (Cp h1 hC)
   split at h
   ·rename_i v' hv
    simp only [Option.some.injEq, Prod.mk.injEq] at h
    obtain ⟨rfl, rfl, rfl⟩ := h
    unfold Zcd at hv
    split at hv
    ·rename_i t x y e1 e2 e3
     simp only [Option.some.injEq] at hv
     subst hv
     have q1 : (ZU n R).eval (.tmp c) = .bool t := by rw [Xa hok (by simp [hop, Op.operands])]; exact hcc.trans e1
     simp only [execOp, hop, q1, asBool, Sem.run_bind, Sem.run_pure, Result.andThen_ok]
     cases t with
     | true =>
      have q2 : (ZU n R).eval a = .bool x := by rw [Xa hok (by simp [hop, Op.operands]), Uf hR (C := (c, true) :: C) ⟨e1, hC⟩ h2]; exact e2
      simp [q2]
     | false =>
      have q3 : (ZU n R).eval b = .bool y := by rw [Xa hok (by simp [hop, Op.operands]), Uf hR (C := (c, false) :: C) ⟨e1, hC⟩ h3]; exact e3
      simp [q3]
    ·cases hv
   ·cases h
 ·rename_i t x hop
  cases hc : (okG D C x && mem T.ones t) with
  | false => simp [hc] at h
  | true =>
   simp only [hc, cond_true] at h
   simp only [Bool.and_eq_true] at hc
   split at h
   ·rename_i a v' vs2 e1
    simp only [Option.some.injEq, Prod.mk.injEq] at h
    obtain ⟨rfl, rfl, rfl⟩ := h
    have hcell := hob _ (List.mem_singleton.2 rfl) hC
    refine Hq (T := T) ?_ hok hcell
    unfold ldO
    simp only [hop, Uf hR hC hc.1, e1, hc.2, cond_true]
   ·cases h
 ·rename_i hnp hnl
  cases hc : C7 D C o.op.operands.toList with
  | false => simp [hc] at h
  | true =>
   simp only [hc, cond_true] at h
   split at h
   ·rename_i v' hv
    simp only [Option.some.injEq, Prod.mk.injEq] at h
    obtain ⟨rfl, rfl, rfl⟩ := h
    exact Hy hok (fun x hx => Uf hR hC (UQ _ hc x hx)) hv
   ·cases h
theorem JP {w : World} : ∀ (l : List (Prop × Addr × Value)), Zab w l → ∀ p ∈ l, p.1 → w.cell? p.2.1 = some p.2.2
 | [], _, _, h => by cases h
 | [p], h, q, hm => by simp at hm; subst hm; exact h
 | p :: p2 :: r, h, q, hm => by
  rcases List.mem_cons.1 hm with rfl | hm
  ·exact h.1
  ·exact JP (p2 :: r) h.2 q hm
theorem XZ : ∀ (l : List Oper), XS n l = true → ∀ (j : Nat) (o : Oper), l[j]? = some o → QC n o = true
 | [], _, _, _, h => by simp at h
 | o :: r, h, j, o', hj => by
  obtain ⟨h1, h2⟩ := ZG h
  cases j with
  | zero => simp at hj; subst hj; exact h1
  | succ j => simp at hj; exact XZ r h2 j o' hj
theorem QX {os : List Oper} (hos : XS n os = true) {o : Oper} {G R : Fm} {D : DD} {U : List Nat} {C : List (Nat × Bool)} (hR : Rel G D U R) (h : Vt os G D o = some C) :
  (Region.wanted o (yielded os.toArray (ZU n R).tmps) = true ∧ Hc G C) ∨ (Region.wanted o (yielded os.toArray (ZU n R).tmps) = false ∧ ¬ Hc G C) := by
 unfold Vt at h
 unfold Region.wanted
 cases hg : o.guard with
 | none => simp only [hg, Option.some.injEq] at h; subst h; exact .inl ⟨rfl, trivial⟩
 | some g =>
  obtain ⟨j, want⟩ := g
  simp only [hg] at h
  cases hs : YD os j with
  | none => simp [hs] at h
  | some s =>
   simp only [hs] at h
   split at h
   ·rename_i b hGs
    simp only [Option.some.injEq] at h
    subst h
    unfold YD at hs
    rw [Yo] at hs
    cases hj : os[j]? with
    | none => simp [hj] at hs
    | some oj =>
     simp only [hj] at hs
     have hlt : s < n := by
      have h1 := XZ os hos j oj hj
      simp only [QC, hs, okD, Bool.and_eq_true] at h1
      exact YL.1 h1.2
     have hy : yielded os.toArray (ZU n R).tmps j = match R s with | .bool b => some b | _ => none := by
      unfold yielded
      simp [hj, hs, act_get? n R s hlt]
      cases R s <;> rfl
     simp only [hy]
     by_cases hD : Hc G (D s)
     ·rw [hR.yes s hD, hGs]
      by_cases hb : b = want
      ·subst hb; exact .inl ⟨by simp, hGs, hD⟩
      ·refine .inr ⟨by simp [hb], fun hh => ?_⟩
       have := hh.1
       rw [hGs] at this
       injection this with this
       exact hb this
     ·rw [hR.no s hD]
      exact .inr ⟨rfl, fun hh => hD hh.2⟩
   ·cases h
theorem Rel.step {G R : Fm} {D : DD} {U : List Nat} {C : List (Nat × Bool)} {d : Nat} {v u : Value} (hR : Rel G D U R) (hU : ∀ s b, (s, b) ∈ C → s ∈ Yn C ++ U) (hd : d ∉ Yn C ++ U)
  (hy : Hc G C → u = v) (hn : ¬ Hc G C → u = undef) : Rel (upd G d v) (UK D d C) (Yn C ++ U) (upd R d u) := by
 have e1 : ∀ t, Nat.beq t d = false → (Hc (upd G d v) (D t) ↔ Hc G (D t)) := fun t _ => CG fun s b hm e => hd (by rw [← e]; exact List.mem_append_right _ (hR.sl t s b hm))
 have e2 : Hc (upd G d v) C ↔ Hc G C := CG fun s b hm e => hd (by rw [← e]; exact hU s b hm)
 refine ⟨fun t h => ?_, fun t h => ?_, fun t s b hm => ?_⟩
 ·cases hb : Nat.beq t d with
  | true => simp only [UK, hb, cond_true, e2] at h; simp [upd, hb, hy h]
  | false => simp only [UK, hb, cond_false, e1 t hb] at h; simp [upd, hb, hR.yes t h]
 ·cases hb : Nat.beq t d with
  | true => simp only [UK, hb, cond_true, e2] at h; simp [upd, hb, hn h]
  | false => simp only [UK, hb, cond_false, e1 t hb] at h; simp [upd, hb, hR.no t h]
 ·cases hb : Nat.beq t d with
  | true => simp only [UK, hb, cond_true] at hm; exact hU s b hm
  | false => simp only [UK, hb, cond_false] at hm; exact List.mem_append_right _ (hR.sl t s b hm)
theorem UU (os : List Oper) : ∀ (k : Nat) (l : List Oper) (vs : List Value) (G : Fm) (D : DD) (U : List Nat) (l' : List Oper) (G' : Fm) (D' : DD) (ob : List (Prop × Addr × Value)), runG T os k l vs G D U = some (l', G', D', ob) → XS n l = true → XS n l' = true := by
 intro k
 induction k with
 | zero => intro l vs G D U l' G' D' ob h hok; simp [runG] at h; obtain ⟨rfl, _⟩ := h; exact hok
 | succ k ih =>
  intro l vs G D U l' G' D' ob h hok
  cases l with
  | nil => simp [runG] at h; obtain ⟨rfl, _⟩ := h; rfl
  | cons o r =>
   obtain ⟨_, h2⟩ := ZG hok
   simp only [runG] at h
   split at h
   ·rename_i d C hdst hC
    split at h
    ·rename_i v vs2 ob2 hv
     cases hm : mem (Yn C ++ U) d with
     | true => simp [hm] at h
     | false =>
      simp only [hm, cond_false] at h
      split at h
      ·rename_i hh
       simp only [Option.some.injEq, Prod.mk.injEq] at h
       obtain ⟨rfl, _⟩ := h
       exact ih _ _ _ _ _ _ _ _ _ hh h2
      ·cases h
    ·cases h
   ·cases h
theorem LW.runsG {os : List Oper} (hos : XS n os = true) {w : World} {W : List Oper → Act → Prop} (hW : LW P os.toArray w W) : ∀ (k : Nat) (l : List Oper) (vs : List Value) (G : Fm) (D : DD) (U : List Nat) (R : Fm) (l' : List Oper) (G' : Fm) (D' : DD) (ob : List (Prop × Addr × Value)),
  runG T os k l vs G D U = some (l', G', D', ob) → XS n l = true → (∀ p ∈ ob, p.1 → w.cell? p.2.1 = some p.2.2) → Rel G D U R → (∀ j, W l' (ZU n (ovr D' G' j))) → W l (ZU n R) := by
 intro k
 have VR : ∀ (l : List Oper) (G : Fm) (D : DD) (U : List Nat) (R : Fm), Rel G D U R → (∀ j, W l (ZU n (ovr D G j))) → W l (ZU n R) := by
  intro l G D U R hR hk
  have : ovr D G R = R := by
   funext t
   unfold ovr
   split
   ·rename_i hD; exact (hR.yes t (by rw [hD]; trivial)).symm
   ·rfl
  rw [← this]
  exact hk R
 induction k with
 | zero => intro l vs G D U R l' G' D' ob h _ _ hR hk; simp [runG] at h; obtain ⟨rfl, rfl, rfl, _⟩ := h; exact VR _ _ _ _ _ hR hk
 | succ k ih =>
  intro l vs G D U R l' G' D' ob h hok hob hR hk
  cases l with
  | nil => simp [runG] at h; obtain ⟨rfl, rfl, rfl, _⟩ := h; exact VR _ _ _ _ _ hR hk
  | cons o r =>
   obtain ⟨h1, h2⟩ := ZG hok
   simp only [runG] at h
   split at h
   ·rename_i d C hdst hC
    split at h
    ·rename_i v vs2 ob2 hv
     cases hm : mem (Yn C ++ U) d with
     | true => simp [hm] at h
     | false =>
      simp only [hm, cond_false] at h
      split at h
      ·rename_i l2 G2 D2 ob3 hh
       simp only [Option.some.injEq, Prod.mk.injEq] at h
       obtain ⟨rfl, rfl, rfl, rfl⟩ := h
       have hd : d ∉ Yn C ++ U := fun hin => by rw [J5 _ _ hin] at hm; cases hm
       have hU : ∀ s b, (s, b) ∈ C → s ∈ Yn C ++ U := fun s b hsb => List.mem_append_left _ (JO _ _ _ hsb)
       have hob2 : ∀ p ∈ ob2, p.1 → w.cell? p.2.1 = some p.2.2 := fun p hp => hob p (List.mem_append_left _ hp)
       have hob3 : ∀ p ∈ ob3, p.1 → w.cell? p.2.1 = some p.2.2 := fun p hp => hob p (List.mem_append_right _ hp)
       rcases QX hos hR hC with ⟨hw, hcc⟩ | ⟨hw, hcc⟩
       ·refine hW.yes o r _ v hw (fun w' hw' => Zaj h1 hR hcc hv (fun p hp hh => (hw' _).trans (hob2 p hp hh))) ?_
        rw [ZZ, hdst]
        exact ih _ _ _ _ _ _ _ _ _ _ hh h2 hob3 (hR.step hU hd (fun _ => rfl) (fun hn => absurd hcc hn)) hk
       ·refine hW.no o r _ hw ?_
        rw [ZZ, hdst]
        exact ih _ _ _ _ _ _ _ _ _ _ hh h2 hob3 (hR.step hU hd (fun hy => absurd hy hcc) (fun _ => rfl)) hk
      ·cases h
    ·cases h
   ·cases h
end
end Go.V
namespace Go.V
open Go Go.RowKit
abbrev Hp := Nat → Option Obj
def Sub (a b : Hp) : Prop := ∀ k x, a k = some x → b k = some x
def Dj (a b : Hp) : Prop := ∀ k, a k = none ∨ b k = none
def XM (a : Hp) (w : World) : Prop := ∀ k x, a k = some x → w.heap[k]? = some x
theorem Sub.refl (a : Hp) : Sub a a := fun _ _ h => h
theorem Sub.trans {a b c : Hp} (h : Sub a b) (k : Sub b c) : Sub a c := fun i x hx => k i x (h i x hx)
theorem Sub.w {a b : Hp} {w : World} (h : Sub a b) (k : XM b w) : XM a w := fun i x hx => k i x (h i x hx)
theorem Dj.symm {a b : Hp} (h : Dj a b) : Dj b a := fun k => (h k).symm
theorem Dj.sub {a b a' b' : Hp} (h : Dj a b) (ha : Sub a' a) (hb : Sub b' b) : Dj a' b' := fun k => by
 rcases h k with h1 | h1
 ·left
  cases hx : a' k with
  | none => rfl
  | some x => rw [ha k x hx] at h1; cases h1
 ·right
  cases hx : b' k with
  | none => rfl
  | some x => rw [hb k x hx] at h1; cases h1
def join (a b : Hp) : Hp := fun k => match a k with | some x => some x | none => b k
theorem X9 (a b : Hp) : Sub a (join a b) := fun k x h => by simp [join, h]
theorem Qd {a b : Hp} (h : Dj a b) : Sub b (join a b) := fun k x hx => by
 rcases h k with h1 | h1
 ·simp [join, h1, hx]
 ·rw [hx] at h1; cases h1
theorem J0 {a b c : Hp} (h1 : Sub a c) (h2 : Sub b c) : Sub (join a b) c := fun k x hx => by
 unfold join at hx
 split at hx
 ·rename_i y hy; exact h1 k x (by rw [hy]; exact hx)
 ·exact h2 k x hx
theorem Ve {a b : Hp} {w : World} (h1 : XM a w) (h2 : XM b w) : XM (join a b) w := fun k x hx => by
 unfold join at hx
 split at hx
 ·rename_i y hy; exact h1 k x (by rw [hy]; exact hx)
 ·exact h2 k x hx
theorem Du {a b : Hp} {k : Nat} : join a b k = none ↔ a k = none ∧ b k = none := by
 unfold join
 split
 ·rename_i x hx; simp [hx]
 ·rename_i hx; simp [hx]
theorem Dj.join {a b c : Hp} (h1 : Dj a c) (h2 : Dj b c) : Dj (join a b) c := fun k => by
 rcases h1 k with h | h
 ·rcases h2 k with h' | h'
  ·exact .inl (Du.2 ⟨h, h'⟩)
  ·exact .inr h'
 ·exact .inr h
structure HP where
 h : Hp → Hp → Prop
 mono : ∀ o o' r r', Sub o o' → Sub r r' → h o r → h o' r'
def All : List HP → Hp → Hp → Prop
 | [], _, _ => True
 | A :: L, o, r => ∃ o1 o2, Sub o1 o ∧ Sub o2 o ∧ Dj o1 o2 ∧ A.h o1 r ∧ All L o2 r
theorem All.mono : ∀ (L : List HP) {o o' r r' : Hp}, Sub o o' → Sub r r' → All L o r → All L o' r'
 | [], _, _, _, _, _, _, _ => trivial
 | A :: L, _, _, _, _, ho, hr, ⟨o1, o2, h1, h2, hd, hA, hL⟩ => ⟨o1, o2, h1.trans ho, h2.trans ho, hd, A.mono _ _ _ _ (Sub.refl _) hr hA, All.mono L (Sub.refl _) hr hL⟩
theorem All.swap {A B : HP} {L : List HP} {o r : Hp} (h : All (A :: B :: L) o r) : All (B :: A :: L) o r := by
 obtain ⟨o1, o2, h1, h2, hd, hA, o3, o4, h3, h4, hd', hB, hL⟩ := h
 have d14 : Dj o1 o4 := hd.sub (Sub.refl _) h4
 exact ⟨o3, join o1 o4, h3.trans h2, J0 h1 (h4.trans h2), ((hd.sub (Sub.refl _) h3).join (hd'.symm)).symm, hB, o1, o4, X9 _ _, Qd d14, d14, hA, hL⟩
theorem All.perm {L L' : List HP} (hp : L.Perm L') : ∀ {o r : Hp}, All L o r → All L' o r := by
 induction hp with
 | nil => exact fun h => h
 | cons A _ ih => rintro o r ⟨o1, o2, h1, h2, hd, hA, hL⟩; exact ⟨o1, o2, h1, h2, hd, hA, ih hL⟩
 | swap A B L => exact All.swap
 | trans _ _ ih1 ih2 => exact fun h => ih2 (ih1 h)
theorem All.app : ∀ (L M : List HP) {o r : Hp}, All (L ++ M) o r → ∃ o1 o2, Sub o1 o ∧ Sub o2 o ∧ Dj o1 o2 ∧ All L o1 r ∧ All M o2 r
 | [], M, o, r, h => ⟨fun _ => none, o, (fun _ _ h => by cases h), Sub.refl _, (fun _ => .inl rfl), trivial, h⟩
 | A :: L, M, o, r, ⟨o1, o2, h1, h2, hd, hA, hL⟩ => by
  obtain ⟨o3, o4, h3, h4, hd', hL', hM⟩ := All.app L M hL
  have d13 : Dj o1 o3 := hd.sub (Sub.refl _) h3
  exact ⟨join o1 o3, o4, J0 h1 (h3.trans h2), h4.trans h2, (hd.sub (Sub.refl _) h4).join hd', ⟨o1, o3, X9 _ _, Qd d13, d13, hA, hL'⟩, hM⟩
theorem All.cat : ∀ (L M : List HP) {o1 o2 o r : Hp}, Sub o1 o → Sub o2 o → Dj o1 o2 → All L o1 r → All M o2 r → All (L ++ M) o r
 | [], M, o1, o2, o, r, _, h2, _, _, hM => All.mono M h2 (Sub.refl _) hM
 | A :: L, M, o1, o2, o, r, h1, h2, hd, ⟨o3, o4, h3, h4, hd', hA, hL⟩, hM => by
  have d42 : Dj o4 o2 := hd.sub h4 (Sub.refl _)
  exact ⟨o3, join o4 o2, h3.trans h1, J0 (h4.trans h1) h2, ((hd'.symm).join ((hd.sub h3 (Sub.refl _)).symm)).symm, hA, All.cat L M (X9 _ _) (Qd d42) d42 hL hM⟩
structure St (g : World) (L : List HP) (w : World) : Prop where
 os : w.os = g.os
 tape : w.tape = g.tape
 output : w.output = g.output
 size : g.heap.size ≤ w.heap.size
 own : ∃ o r, Dj o r ∧ XM o w ∧ XM r w ∧ (∀ k, k < g.heap.size → r k = g.heap[k]?) ∧ All L o r
section
variable {g w w' : World} {L L' : List HP} {A B : HP}
theorem St.start (w : World) : St w [] w :=
 ⟨rfl, rfl, rfl, Nat.le_refl _, fun _ => none, fun k => w.heap[k]?, (fun _ => .inl rfl), (fun _ _ h => by cases h), (fun _ _ h => h), (fun _ _ => rfl), trivial⟩
theorem St.below (h : St g L w) : Below g.heap.size g w := by
 obtain ⟨o, r, hd, ho, hr, hg, _⟩ := h.own
 refine ⟨h.os, h.tape, h.output, h.size, fun k hk => ?_⟩
 have h1 := hg k hk
 rw [Array.getElem?_eq_getElem hk] at h1 ⊢
 exact hr k _ h1
theorem St.perm (h : St g L w) (hp : L.Perm L') : St g L' w :=
 let ⟨o, r, a, b, c, d, e⟩ := h.own
 ⟨h.os, h.tape, h.output, h.size, o, r, a, b, c, d, All.perm hp e⟩
theorem St.swap (h : St g (A :: B :: L) w) : St g (B :: A :: L) w := h.perm (List.Perm.swap _ _ _)
theorem St.tail (h : St g (A :: L) w) : St g L w :=
 let ⟨o, r, a, b, c, d, _, _, _, h2, _, _, hL⟩ := h.own
 ⟨h.os, h.tape, h.output, h.size, o, r, a, b, c, d, All.mono L h2 (Sub.refl _) hL⟩
theorem XC : ∀ {L : List HP} {i : Nat}, L[i]? = some A → L.Perm (A :: L.eraseIdx i)
 | [], _, h => by simp at h
 | B :: L, 0, h => by simp at h; subst h; exact List.Perm.refl _
 | B :: L, i + 1, h => by
  simp at h
  exact (List.Perm.cons B (XC h)).trans (List.Perm.swap _ _ _)
theorem St.at_ (i : Nat) (h : St g L w) (hi : L[i]? = some A) : St g (A :: L.eraseIdx i) w := h.perm (XC hi)
theorem Ux : ∀ {L : List HP} {i : Nat}, L[i]? = some A → (B :: L.eraseIdx i).Perm (L.set i B)
 | [], _, h => by simp at h
 | C :: L, 0, h => List.Perm.refl _
 | C :: L, i + 1, h => by
  simp at h
  exact (List.Perm.swap _ _ _).trans (List.Perm.cons C (Ux h))
theorem St.back (i : Nat) (h : St g (B :: L.eraseIdx i) w) (hi : L[i]? = some A) : St g (L.set i B) w := h.perm (Ux hi)
def pick : List HP → List Nat → Option (List HP)
 | _, [] => some []
 | L, i :: is => match Cc L i, pick (L.eraseIdx i) is with | some A, some M => some (A :: M) | _, _ => none
theorem St.sub_of {M : List HP} : ∀ (is : List Nat) {L : List HP}, pick L is = some M → ∃ R, L.Perm (M ++ R) := by
 intro is
 induction is generalizing M with
 | nil => intro L h; simp [pick] at h; subst h; exact ⟨L, List.Perm.refl _⟩
 | cons i is ih =>
  intro L h
  simp only [pick, Yo] at h
  split at h
  ·rename_i A M' hA hM
   simp only [Option.some.injEq] at h
   subst h
   obtain ⟨R, hR⟩ := ih hM
   exact ⟨R, (XC hA).trans (List.Perm.cons A hR)⟩
  ·cases h
theorem All.fst : ∀ (L M : List HP) {o r : Hp}, All (L ++ M) o r → All L o r := fun L M _ _ h =>
 let ⟨_, _, h1, _, _, hL, _⟩ := All.app L M h
 All.mono L h1 (Sub.refl _) hL
theorem St.pick {M : List HP} (h : St g L w) (is : List Nat) (hp : pick L is = some M) : St g M w := by
 obtain ⟨R, hR⟩ := St.sub_of is hp
 obtain ⟨o, r, a, b, c, d, e⟩ := h.own
 exact ⟨h.os, h.tape, h.output, h.size, o, r, a, b, c, d, All.fst M R (All.perm hR e)⟩
theorem St.sel {M : List HP} (k : Nat) (is : List Nat) (h : St g L w) (hp : Go.V.pick (L.take k) is = some M) : St g (M ++ L.drop k) w := by
 obtain ⟨R, hR⟩ := St.sub_of is hp
 have h1 : L.Perm ((M ++ L.drop k) ++ R) := by
  have h2 : (L.take k ++ L.drop k).Perm ((M ++ R) ++ L.drop k) := List.Perm.append_right _ hR
  rw [List.take_append_drop] at h2
  refine h2.trans ?_
  rw [List.append_assoc, List.append_assoc]
  exact List.Perm.append_left M List.perm_append_comm
 obtain ⟨o, r, a, b, c, d, e⟩ := h.own
 exact ⟨h.os, h.tape, h.output, h.size, o, r, a, b, c, d, All.fst _ R (All.perm h1 e)⟩
theorem St.drew (h : St g L w) : St g L w.drew := ⟨h.os, h.tape, h.output, h.size, h.own⟩
theorem St.drewN (h : St g L w) (n : Nat) : St g L (w.drewN n) := ⟨h.os, h.tape, h.output, h.size, h.own⟩
theorem St.dn {X : World → Prop} (h : St g L w) (k : ∀ w', St g L w' → X w') : ∀ m, X (w.drewN m) := fun m => k _ (h.drewN m)
theorem St.upd (h : St g (A :: L) w) (e1 : w'.os = w.os) (e2 : w'.tape = w.tape) (e3 : w'.output = w.output) (e4 : w.heap.size ≤ w'.heap.size)
  (hs : ∀ o1 r, A.h o1 r → XM o1 w → XM r w → Dj o1 r → ∃ o1', B.h o1' r ∧ XM o1' w' ∧ (∀ k, o1' k ≠ none → o1 k ≠ none ∨ w.heap.size ≤ k) ∧ (∀ k, k < w.heap.size → o1 k = none → w'.heap[k]? = w.heap[k]?)) : St g (B :: L) w' := by
 obtain ⟨o, r, hd, ho, hr, hg, o1, o2, h1, h2, hd12, hA, hL⟩ := h.own
 obtain ⟨o1', hB, hw1, hdom, hfr⟩ := hs o1 r hA (h1.w ho) hr (hd.sub h1 (Sub.refl _))
 have old : ∀ {x : Hp}, XM x w → Dj o1 x → XM x w' := fun {x} hx hdx k y hy => by
  have hk := hx k y hy
  have hlt : k < w.heap.size := (Array.getElem?_eq_some_iff.1 hk).1
  rcases hdx k with hn | hn
  ·rw [hfr k hlt hn]; exact hk
  ·rw [hy] at hn; cases hn
 have apart : ∀ {x : Hp}, XM x w → Dj o1 x → Dj o1' x := fun {x} hx hdx k => by
  cases hk : o1' k with
  | none => exact .inl rfl
  | some y =>
   rcases hdom k (by rw [hk]; simp) with hn | hn
   ·rcases hdx k with h' | h'
    ·exact absurd h' hn
    ·exact .inr h'
   ·right
    cases hxk : x k with
    | none => rfl
    | some z =>
     have := (Array.getElem?_eq_some_iff.1 (hx k z hxk)).1
     omega
 have d1r : Dj o1 r := hd.sub h1 (Sub.refl _)
 have d2 : Dj o1' o2 := apart (h2.w ho) hd12
 have dr : Dj o1' r := apart hr d1r
 exact ⟨e1.trans h.os, e2.trans h.tape, e3.trans h.output, Nat.le_trans h.size e4, join o1' o2, r, dr.join (hd.sub h2 (Sub.refl _)),
  Ve hw1 (old (h2.w ho) hd12), old hr d1r, hg, o1', o2, X9 _ _, Qd d2, d2, hB, hL⟩
theorem St.get (h : St g L w) (i : Nat) (hi : L[i]? = some A) : ∃ o1 r, A.h o1 r ∧ XM o1 w ∧ XM r w := by
 obtain ⟨o, r, hd, ho, hr, hg, o1, o2, h1, h2, hd12, hA, hL⟩ := (h.at_ i hi).own
 exact ⟨o1, r, hA, h1.w ho, hr⟩
theorem St.add (h : St g L w) (hA : ∀ r : Hp, (∀ k, k < g.heap.size → r k = g.heap[k]?) → A.h (fun _ => none) r) : St g (A :: L) w := by
 obtain ⟨o, r, a, b, c, d, e⟩ := h.own
 exact ⟨h.os, h.tape, h.output, h.size, o, r, a, b, c, d, fun _ => none, o, fun _ _ h => (by cases h), Sub.refl _, fun _ => .inl rfl, hA r d, e⟩
theorem St.dup (h : St g L w) (i : Nat) (hi : L[i]? = some A) (hA : ∀ o r, A.h o r → A.h (fun _ => none) r) : St g (A :: L) w := by
 obtain ⟨o, r, a, b, c, d, e⟩ := h.own
 obtain ⟨o1, o2, h1, h2, hd, hh, hL⟩ := All.perm (XC hi) e
 exact ⟨h.os, h.tape, h.output, h.size, o, r, a, b, c, d, fun _ => none, o, fun _ _ h => (by cases h), Sub.refl _, fun _ => .inl rfl, hA _ _ hh, e⟩
theorem St.impl (h : St g (A :: L) w) (hAB : ∀ o r, A.h o r → B.h o r) : St g (B :: L) w :=
 let ⟨o, r, a, b, c, d, o1, o2, h1, h2, hd, hA, hL⟩ := h.own
 ⟨h.os, h.tape, h.output, h.size, o, r, a, b, c, d, o1, o2, h1, h2, hd, hAB _ _ hA, hL⟩
theorem St.app {M : List HP} (h : St g (A :: L) w) (hAB : ∀ o r, A.h o r → All M o r) : St g (M ++ L) w := by
 obtain ⟨o, r, a, b, c, d, o1, o2, h1, h2, hd, hA, hL⟩ := h.own
 exact ⟨h.os, h.tape, h.output, h.size, o, r, a, b, c, d, All.cat M L h1 h2 hd (hAB _ _ hA) hL⟩
end
def ZN (b : Nat) (ob : Obj) : HP := ⟨fun o _ => o b = some ob, fun _ _ _ _ ho _ h => ho _ _ h⟩
abbrev Zd (b : Nat) (c : Array Value) (t : TypeId) : HP := ZN b (.cells c t (0, 0))
def pur (p : Prop) : HP := ⟨fun _ _ => p, fun _ _ _ _ _ _ h => h⟩
def all (L : List HP) : HP := ⟨All L, fun _ _ _ _ ho hr h => All.mono L ho hr h⟩
def OkE (size : Nat) (ls : List (List Value)) : Prop := ∀ x ∈ ls, x.length = size ∧ ∀ u ∈ x, u.oneCell' = true
theorem OkE.len {size : Nat} {ls : List (List Value)} (h : OkE size ls) : ∀ x ∈ ls, x.length = size := fun x hx => (h x hx).1
theorem OkE.nil (size : Nat) : OkE size [] := fun _ h => by cases h
theorem OkE.app {size : Nat} {ls ms : List (List Value)} (h : OkE size ls) (k : OkE size ms) : OkE size (ls ++ ms) := fun x hx => by
 rcases List.mem_append.1 hx with hx | hx
 ·exact h x hx
 ·exact k x hx
theorem OkE.one {size : Nat} {ls : List (List Value)} (h : OkE size ls) : ∀ u ∈ ls.flatten, u.oneCell' = true := fun u hu => by
 obtain ⟨x, hx, hux⟩ := List.mem_flatten.1 hu
 exact (h x hx).2 u hux
def Ze (e size : Nat) (ls : List (List Value)) (a : Option Addr) (c : Nat) : HP :=
 ⟨fun o _ => OkE size ls ∧ ((a = none ∧ c = 0 ∧ ls = []) ∨ ∃ b cur, a = some ⟨b, 0, none⟩ ∧ o b = some (.cells cur e (0, 0)) ∧ ls.length ≤ c ∧ c ≤ maxLen ∧ cur.size = c * size ∧ cur.toList.take (ls.length * size) = ls.flatten),
 fun _ _ _ _ ho _ ⟨h1, h2⟩ => ⟨h1, h2.imp id fun ⟨b, cur, q1, q2, q3⟩ => ⟨b, cur, q1, ho _ _ q2, q3⟩⟩⟩
def Sh (_e size : Nat) (ls : List (List Value)) (a : Option Addr) (c : Nat) : HP :=
 ⟨fun _ r => OkE size ls ∧ ls.length ≤ c ∧ (0 < ls.length → ∃ b off cur t fz, a = some ⟨b, off, none⟩ ∧ r b = some (.cells cur t fz) ∧ ∀ (j : Nat) (u : Value), ls.flatten[j]? = some u → cur[off + j]? = some u),
 fun _ _ _ _ _ hr ⟨h1, h2, h3⟩ => ⟨h1, h2, fun h => let ⟨b, off, cur, t, fz, q1, q2, q3⟩ := h3 h; ⟨b, off, cur, t, fz, q1, hr _ _ q2, q3⟩⟩⟩
def bo (a : Option Addr) : Nat := match a with | some x => x.block | none => 0
def oo (a : Option Addr) : Nat := match a with | some x => x.off | none => 0
theorem Xi : ∀ (ls : List (List Value)) (size : Nat), (∀ x ∈ ls, x.length = size) → ∀ (k : Nat) (cs : List Value) (j : Nat), ls[k]? = some cs → j < cs.length → ls.flatten[k * size + j]? = cs[j]?
 | [], _, _, k, cs, j, h, _ => by simp at h
 | x :: r, size, hs, 0, cs, j, h, hj => by
  simp at h; subst h
  simp [List.getElem?_append, hj]
 | x :: r, size, hs, k + 1, cs, j, h, hj => by
  simp at h
  have hx := hs x (by simp)
  rw [List.flatten_cons, List.getElem?_append_right (by rw [hx, Nat.add_mul]; omega)]
  have := Xi r size (fun y hy => hs y (by simp [hy])) k cs j h hj
  rw [← this, hx]
  congr 1
  rw [Nat.add_mul]; omega
theorem Zw : ∀ (ls : List (List Value)) (size : Nat), (∀ x ∈ ls, x.length = size) → ls.flatten.length = ls.length * size
 | [], _, _ => by simp
 | x :: r, size, hs => by
  simp only [List.flatten_cons, List.length_append, List.length_cons, hs x (by simp), Zw r size (fun y hy => hs y (by simp [hy])), Nat.add_mul]
  omega
section
variable {g w : World} {L : List HP} {e size c : Nat} {ls : List (List Value)} {a : Option Addr}
theorem St.ld (h : St g L w) (i : Nat) {b t off : Nat} {cs : Array Value} {v : Value} (hi : L[i]? = some (Zd b cs t)) (hc : cs[off]? = some v) : w.cell? ⟨b, off, none⟩ = some v := by
 obtain ⟨o1, r, hA, ho, hr⟩ := h.get i hi
 rw [cell_of_row w b off cs t (0, 0) (ho _ _ hA)]
 exact hc
def IsA (a : Option Addr) : Prop := ∃ b off, a = some ⟨b, off, none⟩
def RdE (w : World) (size : Nat) (a : Option Addr) (k : Nat) (cs : List Value) : Prop := ∀ (j : Nat) (u : Value), cs[j]? = some u → w.cell? ⟨bo a, oo a + k * size + j, none⟩ = some u
theorem St.rdS (h : St g L w) (i : Nat) {k : Nat} {cs : List Value} (hi : L[i]? = some (Sh e size ls a c)) (hk : ls[k]? = some cs) : IsA a ∧ RdE w size a k cs := by
 obtain ⟨o1, r, ⟨h1, h2, h3⟩, ho, hr⟩ := h.get i hi
 have hlt : k < ls.length := (List.getElem?_eq_some_iff.1 hk).1
 obtain ⟨b, off, cur, t, fz, rfl, q2, q3⟩ := h3 (by omega)
 refine ⟨⟨b, off, rfl⟩, fun j u hu => ?_⟩
 have hj : j < cs.length := (List.getElem?_eq_some_iff.1 hu).1
 rw [show bo (some ⟨b, off, none⟩) = b from rfl, show oo (some ⟨b, off, none⟩) = off from rfl, cell_of_row w b _ cur t fz (hr _ _ q2), Nat.add_assoc]
 exact q3 _ u (by rw [Xi ls size h1.len k cs j hk hj]; exact hu)
theorem St.rdO (h : St g L w) (i : Nat) {k : Nat} {cs : List Value} (hi : L[i]? = some (Ze e size ls a c)) (hk : ls[k]? = some cs) : IsA a ∧ RdE w size a k cs := by
 obtain ⟨o1, r, ⟨h1, h2⟩, ho, hr⟩ := h.get i hi
 have hlt : k < ls.length := (List.getElem?_eq_some_iff.1 hk).1
 rcases h2 with ⟨_, _, rfl⟩ | ⟨b, cur, rfl, q2, q3, q4, q5, q6⟩
 ·simp at hlt
 ·refine ⟨⟨b, 0, rfl⟩, fun j u hu => ?_⟩
  have hj : j < cs.length := (List.getElem?_eq_some_iff.1 hu).1
  rw [show bo (some ⟨b, 0, none⟩) = b from rfl, show oo (some ⟨b, 0, none⟩) = 0 from rfl, cell_of_row w b _ cur e (0, 0) (ho _ _ q2), Nat.zero_add]
  have h4 : ls.flatten[k * size + j]? = some u := by rw [Xi ls size h1.len k cs j hk hj]; exact hu
  rw [← q6, List.getElem?_take] at h4
  split at h4
  ·simpa using h4
  ·cases h4
theorem St.share (h : St g (Ze e size ls a c :: L) w) : St g (Sh e size ls a c :: L) w := by
 obtain ⟨o, r, hd, ho, hr, hg, o1, o2, h1, h2, hd12, ⟨q1, q2⟩, hL⟩ := h.own
 have d2r : Dj o2 r := hd.sub h2 (Sub.refl _)
 have d1r : Dj o1 r := hd.sub h1 (Sub.refl _)
 refine ⟨h.os, h.tape, h.output, h.size, o2, join r o1, (d2r.symm.join hd12).symm, h2.w ho, Ve hr (h1.w ho), fun k hk => ?_, fun _ => none, o2, fun _ _ h => (by cases h), Sub.refl _, fun _ => .inl rfl, ?_, All.mono L (Sub.refl _) (X9 _ _) hL⟩
 ·have := hg k hk
  rw [Array.getElem?_eq_getElem hk] at this ⊢
  exact X9 r o1 k _ this
 ·rcases q2 with ⟨rfl, rfl, rfl⟩ | ⟨b, cur, rfl, s2, s3, s4, s5, s6⟩
  ·exact ⟨q1, by simp, fun h => by simp at h⟩
  ·refine ⟨q1, s3, fun _ => ⟨b, 0, cur, e, (0, 0), rfl, Qd d1r.symm b _ s2, fun j u hu => ?_⟩⟩
   rw [← s6, List.getElem?_take] at hu
   split at hu
   ·simpa using hu
   ·cases hu
theorem Sh.dup {o r : Hp} (h : (Sh e size ls a c).h o r) : (Sh e size ls a c).h (fun _ => none) r := h
theorem St.nil_ (h : St g L w) (e size : Nat) : St g (Ze e size [] none 0 :: L) w := h.add fun _ _ => ⟨OkE.nil _, .inl ⟨rfl, rfl, rfl⟩⟩
theorem St.nilS (h : St g L w) (e size : Nat) : St g (Sh e size [] none 0 :: L) w := h.add fun _ _ => ⟨OkE.nil _, by simp, by simp⟩
theorem St.new (h : St g L w) (ob : Obj) : St g (ZN w.heap.size ob :: L) (w.alloc ob) := by
 have h0 : St g (pur True :: L) w := h.add fun _ _ => trivial
 refine h0.upd rfl rfl rfl (by simp) fun o1 r _ _ _ _ => ⟨fun k => if k = w.heap.size then some ob else none, by simp [ZN], fun k x hx => ?_, fun k hk => ?_, fun k hk _ => Below.heap_alloc w ob k hk⟩
 ·simp only at hx
  split at hx
  ·rename_i hk; subst hk; simp only [Option.some.injEq] at hx; subst hx; exact heap_alloc_new w ob
  ·cases hx
 ·simp only [ne_eq, ite_eq_right_iff, reduceCtorEq, imp_false, Classical.not_not] at hk
  exact .inr (by omega)
theorem St.set0 {b t i : Nat} {cs : Array Value} (h : St g (Zd b cs t :: L) w) (v : Value) : St g (Zd b (cs.setIfInBounds i v) t :: L) (w.setCell ⟨b, i, none⟩ v) := by
 refine h.upd rfl rfl rfl (by simp [World.setCell]) fun o1 r hA hw _ _ => ⟨fun k => if k = b then some (.cells (cs.setIfInBounds i v) t (0, 0)) else none, by simp [ZN], fun k x hx => ?_, fun k hk => ?_, fun k hk hn => ?_⟩
 ·simp only at hx
  split at hx
  ·rename_i hk; subst hk
   simp only [Option.some.injEq] at hx; subst hx
   exact heap_setCell_same w _ i cs t v (hw _ _ hA)
  ·cases hx
 ·simp only [ne_eq, ite_eq_right_iff, reduceCtorEq, imp_false, Classical.not_not] at hk
  subst hk
  exact .inl (by rw [show o1 k = some (.cells cs t (0, 0)) from hA]; simp)
 ·refine Below.heap_setCell w _ v k fun e => ?_
  have : o1 k = some (.cells cs t (0, 0)) := by rw [e]; exact hA
  rw [hn] at this; cases this
end
theorem St.n1 {g w : World} {X : List HP} (h : St g X w) (L : List HP) {a0 : HP} (e : X = a0 :: L) : St g (a0 :: L) w := e ▸ h
theorem St.n2 {g w : World} {X : List HP} (h : St g X w) (L : List HP) {a0 a1 : HP} (e : X = a0 :: a1 :: L) : St g (a0 :: a1 :: L) w := e ▸ h
theorem St.n3 {g w : World} {X : List HP} (h : St g X w) (L : List HP) {a0 a1 a2 : HP} (e : X = a0 :: a1 :: a2 :: L) : St g (a0 :: a1 :: a2 :: L) w := e ▸ h
theorem St.n4 {g w : World} {X : List HP} (h : St g X w) (L : List HP) {a0 a1 a2 a3 : HP} (e : X = a0 :: a1 :: a2 :: a3 :: L) : St g (a0 :: a1 :: a2 :: a3 :: L) w := e ▸ h
theorem St.n5 {g w : World} {X : List HP} (h : St g X w) (L : List HP) {a0 a1 a2 a3 a4 : HP} (e : X = a0 :: a1 :: a2 :: a3 :: a4 :: L) : St g (a0 :: a1 :: a2 :: a3 :: a4 :: L) w := e ▸ h
theorem St.n6 {g w : World} {X : List HP} (h : St g X w) (L : List HP) {a0 a1 a2 a3 a4 a5 : HP} (e : X = a0 :: a1 :: a2 :: a3 :: a4 :: a5 :: L) : St g (a0 :: a1 :: a2 :: a3 :: a4 :: a5 :: L) w := e ▸ h
theorem St.n7 {g w : World} {X : List HP} (h : St g X w) (L : List HP) {a0 a1 a2 a3 a4 a5 a6 : HP} (e : X = a0 :: a1 :: a2 :: a3 :: a4 :: a5 :: a6 :: L) : St g (a0 :: a1 :: a2 :: a3 :: a4 :: a5 :: a6 :: L) w := e ▸ h
theorem St.n8 {g w : World} {X : List HP} (h : St g X w) (L : List HP) {a0 a1 a2 a3 a4 a5 a6 a7 : HP} (e : X = a0 :: a1 :: a2 :: a3 :: a4 :: a5 :: a6 :: a7 :: L) : St g (a0 :: a1 :: a2 :: a3 :: a4 :: a5 :: a6 :: a7 :: L) w := e ▸ h
theorem St.n9 {g w : World} {X : List HP} (h : St g X w) (L : List HP) {a0 a1 a2 a3 a4 a5 a6 a7 a8 : HP} (e : X = a0 :: a1 :: a2 :: a3 :: a4 :: a5 :: a6 :: a7 :: a8 :: L) : St g (a0 :: a1 :: a2 :: a3 :: a4 :: a5 :: a6 :: a7 :: a8 :: L) w := e ▸ h
theorem St.n10 {g w : World} {X : List HP} (h : St g X w) (L : List HP) {a0 a1 a2 a3 a4 a5 a6 a7 a8 a9 : HP} (e : X = a0 :: a1 :: a2 :: a3 :: a4 :: a5 :: a6 :: a7 :: a8 :: a9 :: L) : St g (a0 :: a1 :: a2 :: a3 :: a4 :: a5 :: a6 :: a7 :: a8 :: a9 :: L) w := e ▸ h
theorem St.n12 {g w : World} {X : List HP} (h : St g X w) (L : List HP) {a0 a1 a2 a3 a4 a5 a6 a7 a8 a9 a10 a11 : HP} (e : X = a0 :: a1 :: a2 :: a3 :: a4 :: a5 :: a6 :: a7 :: a8 :: a9 :: a10 :: a11 :: L) : St g (a0 :: a1 :: a2 :: a3 :: a4 :: a5 :: a6 :: a7 :: a8 :: a9 :: a10 :: a11 :: L) w := e ▸ h
theorem St.n13 {g w : World} {X : List HP} (h : St g X w) (L : List HP) {a0 a1 a2 a3 a4 a5 a6 a7 a8 a9 a10 a11 a12 : HP} (e : X = a0 :: a1 :: a2 :: a3 :: a4 :: a5 :: a6 :: a7 :: a8 :: a9 :: a10 :: a11 :: a12 :: L) : St g (a0 :: a1 :: a2 :: a3 :: a4 :: a5 :: a6 :: a7 :: a8 :: a9 :: a10 :: a11 :: a12 :: L) w := e ▸ h
theorem St.n15 {g w : World} {X : List HP} (h : St g X w) (L : List HP) {a0 a1 a2 a3 a4 a5 a6 a7 a8 a9 a10 a11 a12 a13 a14 : HP} (e : X = a0 :: a1 :: a2 :: a3 :: a4 :: a5 :: a6 :: a7 :: a8 :: a9 :: a10 :: a11 :: a12 :: a13 :: a14 :: L) : St g (a0 :: a1 :: a2 :: a3 :: a4 :: a5 :: a6 :: a7 :: a8 :: a9 :: a10 :: a11 :: a12 :: a13 :: a14 :: L) w := e ▸ h
end Go.V
namespace Go.V
open Go Go.RowKit
inductive Ex where
 | nrm
 | ext (i : Nat)
 | ret
abbrev Qt := Ex → Fm → World → Prop
abbrev Kt := Fm → World → Prop
def Zbq (n : Nat) (Q : Qt) : Exit → Act → World → Prop
 | .normal, a, w => ∃ F, a = ZU n F ∧ Q .nrm F w
 | .exit i, a, w => ∃ F, a = ZU n F ∧ Q (.ext i) F w
 | .ret, a, w => ∃ F, a = ZU n F ∧ Q .ret F w
 | _, _, _ => False
def Zcn (n : Nat) (K : Kt) : Exit → Act → World → Prop
 | .normal, a, w => ∃ F, a = ZU n F ∧ K F w
 | _, _, _ => False
structure WC (P : Program) (n : Nat) (c : Code) (Q : Qt) (F : Fm) (w : World) : Prop where
 go : Hx n c = true → c.wp P (Zbq n Q) (ZU n F) w
structure WL (P : Program) (n : Nat) (os l : List Oper) (K : Kt) (F : Fm) (w : World) : Prop where
 go : XS n os = true → XS n l = true → wpList P os.toArray (Zcn n K) l (ZU n F) w
structure WQ (P : Program) (n : Nat) (os l : List Oper) (w : World) (K : Fm → Prop) (F : Fm) : Prop where
 go : XS n os = true → XS n l = true → wpQuiet P os.toArray (fun w' => ∃ m, w' = w.drewN m) (fun a => ∃ F, a = ZU n F ∧ K F) l (ZU n F)
noncomputable def J7 (p : Nat → Prop) : Nat := by
 classical
 exact if h : ∃ k, p k then Classical.choose (least h) else 0
where
 least {p : Nat → Prop} (h : ∃ k, p k) : ∃ k, p k ∧ ∀ j, p j → k ≤ j := by
  obtain ⟨k, hk⟩ := h
  induction k using Nat.strongRecOn with
  | _ k ih =>
   by_cases hx : ∃ j, j < k ∧ p j
   ·obtain ⟨j, hj, hp⟩ := hx; exact ih j hj hp
   ·exact ⟨k, hk, fun j hj => by
     rcases Nat.lt_or_ge j k with h | h
     ·exact absurd ⟨j, h, hj⟩ hx
     ·exact h⟩
theorem D_ {p : Nat → Prop} {k : Nat} (h : p k) : p (J7 p) := by
 have hx : ∃ k, p k := ⟨k, h⟩
 unfold J7
 simp only [hx, dif_pos]
 exact (Classical.choose_spec (J7.least hx)).1
theorem Vd {p : Nat → Prop} {k : Nat} (h : p k) : J7 p ≤ k := by
 have hx : ∃ k, p k := ⟨k, h⟩
 unfold J7
 simp only [hx, dif_pos]
 exact (Classical.choose_spec (J7.least hx)).2 k h
abbrev sq (N : Kt) (Q : Qt) : Qt := fun e F w => match e with | .nrm => N F w | .ext i => Q (.ext i) F w | .ret => Q .ret F w
abbrev bl (id : Nat) (Q : Qt) : Qt := fun e F w => match e with | .nrm => Q .nrm F w | .ext i => bif Nat.beq i id then Q .nrm F w else Q (.ext i) F w | .ret => Q .ret F w
section
variable {P : Program} {n : Nat} {Q Q' : Qt} {F : Fm} {w : World}
theorem WC.mono {c : Code} (h : WC P n c Q F w) (hq : ∀ e F w, Q e F w → Q' e F w) : WC P n c Q' F w :=
 ⟨fun hok => wp_mono (h.go hok) fun e a w hh => by
  cases e <;> first | exact let ⟨F, ha, hF⟩ := hh; ⟨F, ha, hq _ _ _ hF⟩ | exact hh⟩
theorem Ze7 {a b : Code} (h : WC P n a (sq (fun F w => WC P n b Q F w) Q) F w) : WC P n (.seq a b) Q F w :=
 ⟨fun hok => by
  simp only [Hx, Bool.and_eq_true] at hok
  refine wp_seq (wp_mono (h.go hok.1) fun e a w hh => ?_)
  cases e <;> first
   | exact hh
   | (obtain ⟨F, rfl, hF⟩ := hh; exact hF.go hok.2)⟩
theorem Zfc (h : Q .nrm F w) : WC P n .skip Q F w := ⟨fun _ => wp_skip ⟨F, rfl, h⟩⟩
theorem Zfv {i : Nat} (h : Q (.ext i) F w) : WC P n (.exit i) Q F w := ⟨fun _ => wp_exit ⟨F, rfl, h⟩⟩
theorem Zfa (h : Q .ret F w) : WC P n .ret Q F w := ⟨fun _ => wp_ret ⟨F, rfl, h⟩⟩
theorem Zfj {id : Nat} {c : Code} (h : WC P n c (bl id Q) F w) : WC P n (.block id c) Q F w :=
 ⟨fun hok => wp_block (wp_mono (h.go hok) fun e a w hh => by
  cases e with
  | exit i =>
   obtain ⟨F, rfl, hF⟩ := hh
   unfold Exit.inBlock
   cases hb : Nat.beq i id with
   | true =>
    have := Nat.eq_of_beq_eq_true hb
    subst this
    simp only [bl, hb, cond_true] at hF
    first
     | exact ⟨F, rfl, hF⟩
     | (simp; exact ⟨F, rfl, hF⟩)
   | false =>
    simp only [bl, hb, cond_false] at hF
    have hne : i ≠ id := fun e => by subst e; simp at hb
    simp [hne]
    exact ⟨F, rfl, hF⟩
  | _ => exact hh)⟩
theorem WC.region {id : Nat} {os : List Oper} (h : WL P n os os (Q .nrm) F w) : WC P n (.region id os.toArray false) Q F w :=
 ⟨fun hok => by
  have hok' : XS n os = true := by simpa [Hx] using hok
  refine wp_region_list ?_
  have := h.go hok' hok'
  have e : (Zcn n (Q .nrm)) = (fun e a w => match e with | .normal => ∃ F, a = ZU n F ∧ Q .nrm F w | _ => False) := by
   funext e a w; cases e <;> rfl
  refine wpList_imp ?_ _ _ _ this
  intro e a w hh
  cases e <;> first | exact hh | exact hh.elim⟩
where
 wpList_imp {P : Program} {ops : Array Oper} {Q Q' : Exit → Act → World → Prop} (h : ∀ e a w, Q e a w → Q' e a w) : ∀ (l : List Oper) (a : Act) (w : World), wpList P ops Q l a w → wpList P ops Q' l a w
  | [], a, w, hh => h _ _ _ hh
  | o :: r, a, w, hh => by
   unfold wpList at hh ⊢
   split
   ·rename_i hw
    rw [if_pos hw] at hh
    rcases hh with hh | ⟨h1, a', w', h2⟩
    ·exact .inl (Oper.wp_mono (fun a' w' h' => wpList_imp h r a' w' h') (Plan.Oper.wp_monoQ (fun e a w _ => h e a w) hh))
    ·exact .inr ⟨h1, a', w', h _ _ _ h2⟩
   ·rename_i hw
    rw [if_neg hw] at hh
    exact wpList_imp h r _ _ hh
theorem Zgf {c : Operand} {x y : Code} {b : Bool} (hc : ev F c = .bool b) (h1 : b = true → WC P n x Q F w) (h0 : b = false → WC P n y Q F w) : WC P n (.cond c x y) Q F w :=
 ⟨fun hok => by
  simp only [Hx, Bool.and_eq_true] at hok
  have e : (ZU n F).eval c = .bool b := by rw [Up hok.1.1]; exact hc
  cases b with
  | true => exact wp_cond_true e ((h1 rfl).go hok.1.2)
  | false => exact wp_cond_false e ((h0 rfl).go hok.2)⟩
theorem Zfe {c : Operand} {x y : Code} {p : Prop} [Decidable p] (hc : ev F c = .bool (decide p)) (h1 : p → WC P n x Q F w) (h0 : ¬ p → WC P n y Q F w) : WC P n (.cond c x y) Q F w :=
 Zgf hc (fun h => h1 (of_decide_eq_true h)) (fun h => h0 (of_decide_eq_false h))
theorem Zfs {c : Operand} {x y : Code} {b : Bool} (hc : ev F c = .bool b) (hb : b = true) (h : WC P n x Q F w) : WC P n (.cond c x y) Q F w := Zgf hc (fun _ => h) (fun h0 => by rw [hb] at h0; cases h0)
theorem Zfl {c : Operand} {x y : Code} {b : Bool} (hc : ev F c = .bool b) (hb : b = false) (h : WC P n y Q F w) : WC P n (.cond c x y) Q F w := Zgf hc (fun h0 => by rw [hb] at h0; cases h0) (fun _ => h)
theorem Zgy {c : Code} (d : Nat) (v : Value) (h : F d = v) (hk : WC P n c Q (upd F d v) w) : WC P n c Q F w := by rw [XJ h] at hk; exact hk
def UN (g : Fm) : List Nat → List Value → Fm
 | d :: ds, v :: vs => upd (UN g ds vs) d v
 | _, _ => g
def vals (F : Fm) : List Nat → List Value
 | [] => []
 | d :: ds => F d :: vals F ds
theorem XB (F : Fm) : ∀ ds, UN F ds (vals F ds) = F
 | [] => rfl
 | d :: ds => by simp only [UN, vals, XB F ds]; exact UF F d
theorem HX (F : Fm) (ds : List Nat) (vs : List Value) (h : vals F ds = vs) : UN F ds vs = F := by subst h; exact XB F ds
theorem WC.keep {c : Code} (ds : List Nat) (vs : List Value) (h : vals F ds = vs) (hk : ∀ g, WC P n c Q (UN g ds vs) w) : WC P n c Q F w := by
 have := hk F
 rw [HX F ds vs h] at this
 exact this
theorem Zgi {c : Code} {N : Kt} (ds : List Nat) (J : List Value → World → Prop) (h : WC P n c (sq (fun F w => J (vals F ds) w) Q) F w) (hk : ∀ vs w g, J vs w → N (UN g ds vs) w) : WC P n c (sq N Q) F w :=
 h.mono fun e F w hh => by
  cases e with
  | nrm => have := hk _ w F hh; rw [XB] at this; exact this
  | _ => exact hh
theorem Zft {c : Code} (ds : List Nat) (I : Nat → List Value → World → Prop) (k : Nat) (h0 : I k (vals F ds) w)
  (hr : ∀ k vs w g, I k vs w → WC P n c (sq (fun F' w' => ∃ m, m < k ∧ I m (vals F' ds) w') Q) (UN g ds vs) w) : WC P n (.loop c) Q F w := by
 refine ⟨fun hok => ?_⟩
 have hok' : Hx n c = true := by simpa [Hx] using hok
 have key : ∀ k F w, I k (vals F ds) w → (Code.loop c).wp P (Zbq n Q) (ZU n F) w := by
  intro k F w hI
  refine wp_loop (fun a w => ∃ k F, a = ZU n F ∧ I k (vals F ds) w) (fun a w => J7 (fun k => ∃ F, a = ZU n F ∧ I k (vals F ds) w)) ⟨k, F, rfl, hI⟩ ?_
  rintro a w ⟨k0, F0, ha0, hI0⟩
  obtain ⟨F1, ha1, hI1⟩ := D_ (p := fun k => ∃ F, a = ZU n F ∧ I k (vals F ds) w) (k := k0) ⟨F0, ha0, hI0⟩
  have h1 := (hr _ _ w F1 hI1).go hok'
  rw [XB, ← ha1] at h1
  refine wp_mono h1 fun e a' w' hh => ?_
  cases e <;> first
   | exact hh
   | (obtain ⟨F2, rfl, m, hm, hI2⟩ := hh
      exact ⟨⟨m, F2, rfl, hI2⟩, Nat.lt_of_le_of_lt (Vd (p := fun k => ∃ F, ZU n F2 = ZU n F ∧ I k (vals F ds) w') ⟨F2, rfl, hI2⟩) hm⟩)
 exact key k F w h0
end
section
variable {P : Program} {T : Tab} [hT : TabOk P T] {n : Nat} {os l : List Oper} {K : Kt} {F : Fm} {w : World}
theorem Ze8 (h : K F w) : WL P n os [] K F w := ⟨fun _ _ => ⟨F, rfl, h⟩⟩
theorem Zfm (d : Nat) (v : Value) (h : F d = v) (hk : WL P n os l K (upd F d v) w) : WL P n os l K F w := by rw [XJ h] at hk; exact hk
theorem WL.keep (ds : List Nat) (vs : List Value) (h : vals F ds = vs) (hk : ∀ g, WL P n os l K (UN g ds vs) w) : WL P n os l K F w := by
 have := hk F
 rw [HX F ds vs h] at this
 exact this
theorem Zfi (d : Nat) {k : IntKind} {z : Int} (h : F d = .int k (k.wrap z)) (hz : k.wrap z = z) (hk : WL P n os l K (upd F d (.int k z)) w) : WL P n os l K F w := Zfm d _ (by rw [h, hz]) hk
theorem Zf6 {K : Fm → Prop} (d : Nat) (v : Value) (h : F d = v) (hk : WQ P n os l w K (upd F d v)) : WQ P n os l w K F := by rw [XJ h] at hk; exact hk
theorem Zf8 {K : Fm → Prop} (d : Nat) {k : IntKind} {z : Int} (h : F d = .int k (k.wrap z)) (hz : k.wrap z = z) (hk : WQ P n os l w K (upd F d (.int k z))) : WQ P n os l w K F := Zf6 d _ (by rw [h, hz]) hk
theorem Zf4 (d : Nat) {b : Bool} {p : Prop} [Decidable p] (h : F d = .bool b) (hp : b = decide p) (hk : WL P n os l K (upd F d (.bool (decide p))) w) : WL P n os l K F w := Zfm d _ (by rw [h, hp]) hk
theorem Zgp {K : Fm → Prop} (d : Nat) {b : Bool} {p : Prop} [Decidable p] (h : F d = .bool b) (hp : b = decide p) (hk : WQ P n os l w K (upd F d (.bool (decide p)))) : WQ P n os l w K F := Zf6 d _ (by rw [h, hp]) hk
theorem Zfd (k : Nat) (vs : List Value) {l' : List Oper} {F' : Fm} {ob : List (Addr × Value)} (h : Go.V.run T k l vs F = some (l', F', ob)) (hob : obs w ob) (hk : WL P n os l' K F' w) : WL P n os l K F w :=
 ⟨fun h1 h2 => LW.runs LW.list k l vs F l' F' ob h h2 hob (hk.go h1 (H_ k l vs F l' F' ob h h2))⟩
theorem Ze6 (k : Nat) {l' : List Oper} {F' : Fm} (h : Go.V.run T k l [] F = some (l', F', [])) (hk : WL P n os l' K F' w) : WL P n os l K F w := Zfd k [] h trivial hk
theorem Zge (k : Nat) (vs : List Value) {l' : List Oper} {F' : Fm} {D : DD} {ob : List (Prop × Addr × Value)} (h : Go.V.runG T os k l vs F D0 [] = some (l', F', D, ob)) (hob : Zab w ob)
  (hk : ∀ j, WL P n os l' K (ovr D F' j) w) : WL P n os l K F w :=
 ⟨fun h1 h2 => LW.runsG h1 LW.list k l vs F D0 [] F l' F' D ob h h2 (JP ob hob) ⟨fun _ _ => rfl, fun _ h => absurd trivial h, fun _ _ _ h => by cases h⟩
  (fun j => (hk j).go h1 (UU os k l vs F D0 [] l' F' D ob h h2))⟩
theorem Zgd (k : Nat) {l' : List Oper} {F' : Fm} {D : DD} (h : Go.V.runG T os k l [] F D0 [] = some (l', F', D, [])) (hk : ∀ j, WL P n os l' K (ovr D F' j) w) : WL P n os l K F w := Zge k [] h trivial hk
theorem Zfo {K : Fm → Prop} (h : K F) : WQ P n os [] w K F := ⟨fun _ _ => ⟨F, rfl, h⟩⟩
theorem WQ.dn {g : World} {L : List HP} {X : Fm → World → Prop} (Z : St g L w) (k : ∀ w', St g L w' → X F w') : WQ P n os [] w (fun F => ∀ m, X F (w.drewN m)) F := Zfo (Z.dn k)
theorem Zfp {K : Fm → Prop} (k : Nat) (vs : List Value) {l' : List Oper} {F' : Fm} {ob : List (Addr × Value)} (h : Go.V.run T k l vs F = some (l', F', ob)) (hob : obs w ob) (hk : WQ P n os l' w K F') : WQ P n os l w K F :=
 ⟨fun h1 h2 => LW.runs LW.quiet k l vs F l' F' ob h h2 hob (hk.go h1 (H_ k l vs F l' F' ob h h2))⟩
theorem Zfg {K : Fm → Prop} (k : Nat) {l' : List Oper} {F' : Fm} (h : Go.V.run T k l [] F = some (l', F', [])) (hk : WQ P n os l' w K F') : WQ P n os l w K F := Zfp k [] h trivial hk
theorem Zgz {K : Fm → Prop} (k : Nat) (vs : List Value) {l' : List Oper} {F' : Fm} {D : DD} {ob : List (Prop × Addr × Value)} (h : Go.V.runG T os k l vs F D0 [] = some (l', F', D, ob)) (hob : Zab w ob)
  (hk : ∀ j, WQ P n os l' w K (ovr D F' j)) : WQ P n os l w K F :=
 ⟨fun h1 h2 => LW.runsG h1 LW.quiet k l vs F D0 [] F l' F' D ob h h2 (JP ob hob) ⟨fun _ _ => rfl, fun _ h => absurd trivial h, fun _ _ _ h => by cases h⟩
  (fun j => (hk j).go h1 (UU os k l vs F D0 [] l' F' D ob h h2))⟩
theorem Zg6 {K : Fm → Prop} (k : Nat) {l' : List Oper} {F' : Fm} {D : DD} (h : Go.V.runG T os k l [] F D0 [] = some (l', F', D, [])) (hk : ∀ j, WQ P n os l' w K (ovr D F' j)) : WQ P n os l w K F := Zgz k [] h trivial hk
theorem Zf2 {o : Oper} {v : Value} {w' : World} (hg : o.guard = none) (hr : QC n o = true → (execOp (ZU n F).eval o).run P w = .ok (.value v) w') (hk : WL P n os l K (Zy F o.dst v) w') : WL P n os (o :: l) K F w :=
 ⟨fun h1 h2 => by
  obtain ⟨h3, h4⟩ := ZG h2
  unfold wpList
  rw [if_pos (by simp [Region.wanted, hg])]
  refine .inl ?_
  unfold Oper.wp
  rw [hr h3, Oper.upon_value, ZZ]
  exact hk.go h1 h4⟩
theorem Zgj {o : Oper} {w' : World} (hg : o.guard = none) (hd : o.dst = none) (hr : QC n o = true → (execOp (ZU n F).eval o).run P w = .ok .skip w') (hk : WL P n os l K F w') : WL P n os (o :: l) K F w :=
 ⟨fun h1 h2 => by
  obtain ⟨h3, h4⟩ := ZG h2
  unfold wpList
  rw [if_pos (by simp [Region.wanted, hg])]
  refine .inl ?_
  unfold Oper.wp
  rw [hr h3, Oper.upon_skip, hd]
  exact hk.go h1 h4⟩
theorem ZF {z : Int} (h : -9223372036854775808 ≤ z ∧ z ≤ 9223372036854775807) : IntKind.i64.wrap z = z := by rw [IntKind.wrap_i64]; omega
theorem Ye {z : Int} (h : 0 ≤ z ∧ z ≤ 18446744073709551615) : IntKind.u64.wrap z = z := by
 unfold IntKind.wrap; simp [IntKind.bits, IntKind.signed]; omega
theorem wu32 {z : Int} (h : 0 ≤ z ∧ z ≤ 4294967295) : IntKind.u32.wrap z = z := by
 unfold IntKind.wrap; simp [IntKind.bits, IntKind.signed]; omega
theorem wu8 {z : Int} (h : 0 ≤ z ∧ z ≤ 255) : IntKind.u8.wrap z = z := by
 unfold IntKind.wrap; simp [IntKind.bits, IntKind.signed]; omega
theorem dd (p : Prop) [Decidable p] : decide p = decide p := rfl
theorem dv (b : Bool) : b = decide (b = true) := by simp
theorem Ya {b c : Bool} {p q : Prop} [Decidable p] [Decidable q] (h : b = decide p) (k : c = decide q) : (bif b then c else false) = decide (p ∧ q) := by subst h; subst k; by_cases hp : p <;> simp [hp]
theorem Uw {b c : Bool} {p q : Prop} [Decidable p] [Decidable q] (h : b = decide p) (k : c = decide q) : (bif b then true else c) = decide (p ∨ q) := by subst h; subst k; by_cases hp : p <;> simp [hp]
theorem Zbx {b : Bool} {p : Prop} [Decidable p] (h : b = decide p) : (!b) = decide (¬ p) := by subst h; by_cases hp : p <;> simp [hp]
def Rt (Ψ : Value → World → Prop) : Ending → World → Prop := fun e w => ∃ v, e = .returned v ∧ Ψ v w
def CF (P : Program) (f : FuncId) : Prop := ∃ fn c, P.funcs[f]? = some fn ∧ (fn.name == "runtime.NumGoroutine") = false ∧ fn.body = some c
structure Sp (P : Program) (f : FuncId) (vs : List Value) (w : World) (Ψ : Value → World → Prop) : Prop where
 cf : CF P f
 go : Calls P f vs.toArray w (Rt Ψ)
theorem Sp.mono {f : FuncId} {vs : List Value} {Ψ Ψ' : Value → World → Prop} (h : Sp P f vs w Ψ) (hh : ∀ v w, Ψ v w → Ψ' v w) : Sp P f vs w Ψ' :=
 ⟨h.cf, h.go.mono fun _ _ ⟨v, he, hv⟩ => ⟨v, he, hh _ _ hv⟩⟩
def evs (F : Fm) : List Operand → List Value
 | [] => []
 | x :: r => ev F x :: evs F r
theorem Vf : ∀ (l : List Operand), evs F l = l.map (ev F)
 | [] => rfl
 | x :: r => by simp [evs, Vf r]
theorem VO {o : Oper} {f : FuncId} {xs : List Operand} {ts : Array TypeId} (ho : o.op = .call { callee := .value (.func f), args := xs.toArray, argTypes := ts }) (hok : QC n o = true) (hcf : CF P f) :
  (execOp (ZU n F).eval o).run P w = .ok (.enter f (evs F xs).toArray) w := by
 obtain ⟨fn, c, h1, h2, h3⟩ := hcf
 have e : xs.toArray.map (ZU n F).eval = (evs F xs).toArray := by
  rw [Vf]
  rw [List.map_toArray]
  congr 1
  refine List.map_congr_left fun x hx => ?_
  exact Xa hok (by simp [ho, Op.operands, Call.operands, hx])
 have hf : (ZU n F).eval (.func f) = .func (.func f) #[] #[] := rfl
 simp only [execOp, ho, resolve, e, hf, Deferred.ofValue, Sem.run_bind, Sem.run_pure, Result.andThen_ok, invoke, Array.empty_append, Array.append_empty]
 have h2' : ¬ fn.name = "runtime.NumGoroutine" := by simpa using h2
 simp [callFunc, h1, h2', h3]
theorem Zfb {o : Oper} {f : FuncId} {xs : List Operand} {ts : Array TypeId} {vs : List Value} {Ψ : Value → World → Prop} (hg : o.guard = none) (ho : o.op = .call { callee := .value (.func f), args := xs.toArray, argTypes := ts }) (hs : Sp P f vs w Ψ) (hv : evs F xs = vs)
  (hk : ∀ v w', Ψ v w' → WL P n os l K (Zy F o.dst v) w') : WL P n os (o :: l) K F w :=
 ⟨fun h1 h2 => by
  obtain ⟨h3, h4⟩ := ZG h2
  unfold wpList
  rw [if_pos (by simp [Region.wanted, hg])]
  refine .inl ?_
  unfold Oper.wp
  rw [VO ho h3 hs.cf, Oper.upon_enter, hv]
  refine hs.go.mono ?_
  rintro e w' ⟨v, rfl, hΨ⟩
  simp only [ZZ]
  exact (hk v w' hΨ).go h1 h4⟩
def tup : List Value → Value
 | [v] => v
 | vs => .tuple vs.toArray
def JQ (P : Program) (F : Fm) (w : World) : List ResultVar → List Value → Prop
 | [], [] => True
 | [.tmp t], [v] => F t = v
 | .tmp t :: r, v :: vs => F t = v ∧ JQ P F w r vs
 | .cell a t :: r, v :: vs => (∃ p, F a = .pointer (some p) ∧ (loadVar t p).run P w = .ok v w) ∧ JQ P F w r vs
 | _, _ => False
def okR (n : Nat) : List ResultVar → Bool
 | [] => true
 | .tmp t :: r => Nat.blt t n && okR n r
 | .cell a _ :: r => Nat.blt a n && okR n r
theorem Dq {F : Fm} {w : World} {t : Nat} {r : List ResultVar} {v : Value} {vs : List Value} (h : JQ P F w (.tmp t :: r) (v :: vs)) : F t = v ∧ JQ P F w r vs := by
 cases r with
 | nil =>
  cases vs with
  | nil => exact ⟨h, trivial⟩
  | cons => exact h
 | cons => exact h
theorem Xr {α β : Type} (f : α → Sem β) (w : World) : ∀ (l : List α) (vs : List β), l.length = vs.length → (∀ (i : Nat) (x : α) (v : β), l[i]? = some x → vs[i]? = some v → (f x).run P w = .ok v w) → (l.mapM f).run P w = .ok vs w
 | [], [], _, _ => by simp
 | [], _ :: _, h, _ => by simp at h
 | _ :: _, [], h, _ => by simp at h
 | x :: l, v :: vs, h, hh => by
  have h0 := hh 0 x v rfl rfl
  have ih := Xr f w l vs (by simpa using h) (fun i x v hx hv => hh (i + 1) x v (by simpa using hx) (by simpa using hv))
  simp only [List.mapM_cons, Sem.run_bind, h0, ih, Result.andThen_ok, Sem.run_pure]
def Vy (tmps : Array Value) : ResultVar → Sem Value := fun
 | .tmp t => pure (tmps.getD t undef)
 | .cell a t => do loadVar t (← asAddr (tmps.getD a undef))
theorem J2 {F : Fm} {w : World} : ∀ (rs : List ResultVar) (vs : List Value), okR n rs = true → JQ P F w rs vs → rs.length = vs.length ∧ ∀ (i : Nat) (x : ResultVar) (v : Value), rs[i]? = some x → vs[i]? = some v →
  (Vy (ZU n F).tmps x).run P w = .ok v w
 | [], [], _, _ => ⟨rfl, fun i x v h => by simp at h⟩
 | [], _ :: _, _, h => by simp [JQ] at h
 | .tmp t :: r, [], _, h => by cases r <;> simp [JQ] at h
 | .cell a t :: r, [], _, h => by simp [JQ] at h
 | .tmp t :: r, v :: vs, hok, h => by
  simp only [okR, Bool.and_eq_true] at hok
  obtain ⟨h1, h2⟩ := Dq h
  obtain ⟨q1, q2⟩ := J2 r vs hok.2 h2
  refine ⟨by simp [q1], fun i x v' hx hv => ?_⟩
  cases i with
  | zero =>
   simp at hx hv; subst hx; subst hv
   simp only [Vy, Q6 n F t (YL.1 hok.1), h1, Sem.run_pure]
  | succ i => exact q2 i x v' (by simpa using hx) (by simpa using hv)
 | .cell a t :: r, v :: vs, hok, h => by
  simp only [okR, Bool.and_eq_true] at hok
  obtain ⟨⟨p, h1, h1'⟩, h2⟩ := h
  obtain ⟨q1, q2⟩ := J2 r vs hok.2 h2
  refine ⟨by simp [q1], fun i x v' hx hv => ?_⟩
  cases i with
  | zero =>
   simp at hx hv; subst hx; subst hv
   simp only [Vy, Q6 n F a (YL.1 hok.1), h1]
   simp [asAddr, h1']
  | succ i => exact q2 i x v' (by simpa using hx) (by simpa using hv)
theorem Ut {fn : Func} {F : Fm} {w : World} {vs : List Value} (hok : okR n fn.results.toList = true) (h : JQ P F w fn.results.toList vs) : (results fn (ZU n F).tmps).run P w = .ok (tup vs) w := by
 obtain ⟨h1, h2⟩ := J2 (n := n) _ _ hok h
 have h3 := Xr (P := P) (Vy (ZU n F).tmps) w _ _ h1 (fun i x v hx hv => h2 i x v hx hv)
 have e : results fn (ZU n F).tmps = (do let vs ← fn.results.mapM (Vy (ZU n F).tmps); pure (if h : vs.size = 1 then vs[0] else .tuple vs)) := rfl
 have e2 : fn.results = fn.results.toList.toArray := by simp
 rw [e, e2, List.mapM_toArray]
 simp only [Sem.run_bind, Sem.run_map, h3, Result.andThen_ok, Sem.run_pure]
 cases vs with
 | nil => simp [tup]
 | cons v r => cases r <;> simp [tup]
end
end Go.V
namespace Go.V
open Go Go.RowKit
abbrev VR (P : Program) (rs : List ResultVar) (Ψ : Value → World → Prop) : Qt := fun e F w => match e with
 | .nrm => ∃ vs, JQ P F w rs vs ∧ Ψ (tup vs) w
 | .ret => ∃ vs, JQ P F w rs vs ∧ Ψ (tup vs) w
 | .ext _ => False
def fr0 : List Value → Fm
 | [], _ => undef
 | v :: _, 0 => v
 | _ :: r, t + 1 => fr0 r t
theorem HT : ∀ (vs : List Value) (t : Nat), fr0 vs t = vs.getD t undef
 | [], t => by simp [fr0]
 | v :: _, 0 => by simp [fr0]
 | _ :: r, t + 1 => by simp [fr0, HT r t]
section
variable {P : Program} {n : Nat} {os l : List Oper} {K : Kt} {F : Fm} {w : World}
theorem Sp.enter {f : FuncId} {fn : Func} {c : Code} {vs : List Value} {Ψ : Value → World → Prop} (hf : P.funcs[f]? = some fn) (hb : fn.body = some c) (hnm : (fn.name == "runtime.NumGoroutine") = false)
  (hok : (Hx fn.ntmps c && okR fn.ntmps fn.results.toList && Nat.ble vs.length fn.ntmps) = true) (h : WC P fn.ntmps c (VR P fn.results.toList Ψ) (fr0 vs) w) : Sp P f vs w Ψ := by
 simp only [Bool.and_eq_true] at hok
 obtain ⟨⟨h1, h2⟩, h3⟩ := hok
 have h3 := Nat.le_of_ble_eq_true h3
 refine ⟨⟨fn, c, hf, hnm, hb⟩, calls_of_wp hf hb ?_⟩
 have e : ({ tmps := vs.toArray ++ Array.replicate (fn.ntmps - vs.toArray.size) undef, defers := [] } : Act) = ZU fn.ntmps (fr0 vs) := by
  simp only [ZU, Act.mk.injEq, and_true]
  apply Array.ext
  ·simp; omega
  ·intro i q1 q2
   simp only [Array.getElem_append, Array.getElem_ofFn, HT]
   split
   ·rename_i hi
    simp at hi
    simp [hi]
   ·rename_i hi
    simp at hi
    simp [hi]
 rw [e]
 refine wp_mono (h.go h1) fun ex a w hh => ?_
 cases ex <;> first
  | exact hh.elim
  | (obtain ⟨F, rfl, vs', hr, hΨ⟩ := hh
     exact ⟨rfl, _, Ut h2 hr, _, rfl, hΨ⟩)
  | (obtain ⟨F, rfl, hF⟩ := hh
     exact hF.elim)
def ZV (P : Program) (t : TypeId) (cs : Array Value) : Prop := ∃ i z, P.info? t = some i ∧ i.zero = some z ∧ z.cells = cs
def Xl (P : Program) (t : TypeId) (m : Nat) : Prop := (P.underlying t).isSome = true ∧ YR P t = true ∧ ∃ i, P.info? t = some i ∧ i.size = m
structure Elem (P : Program) (t e : TypeId) (z : Array Value) (size bytes : Nat) : Prop where
 und : P.underlying t = some (.slice e)
 info : ∃ i zv, P.info? e = some i ∧ i.zero = some zv ∧ zv.cells = z ∧ i.size = size ∧ i.bytes = bytes
 zsz : z.size = size
 pos : 0 < size
 one : ∀ u ∈ z.toList, u.oneCell' = true
variable {T : Tab} [hT : TabOk P T] {g : World} {L : List HP}
theorem Zc {o : Oper} {x : Operand} (h : QC n o = true) (hx : x ∈ o.op.operands.toList) : (ZU n F).eval x = ev F x := Xa h hx
theorem Zf5 {o : Oper} {t : TypeId} {cs : Array Value} (hg : o.guard = none) (ho : o.op = .alloc t) (hz : ZV P t cs) (Z : St g L w) (hk : ∀ b w', St g (Zd b cs t :: L) w' → WL P n os l K (Zy F o.dst (.pointer (some ⟨b, 0, none⟩))) w') : WL P n os (o :: l) K F w := by
 obtain ⟨i, z, h1, h2, rfl⟩ := hz
 refine Zf2 hg (fun _ => ?_) (hk w.heap.size (w.alloc (.cells z.cells t)) (Z.new _))
 simp [execOp, ho, Instr.alloc, zeroValue, typeInfo, h1, h2, newVar, newRow, newObj]
 rfl
theorem Zf0 {o : Oper} {t : TypeId} {x : Operand} {v : Value} (hg : o.guard = none) (ho : o.op = .box t x) (cs : Array Value) (Z : St g L w) (hv : ev F x = v) (hc : v.cells = cs) (hk : ∀ b w', St g (Zd b cs t :: L) w' → WL P n os l K (Zy F o.dst (.pointer (some ⟨b, 0, none⟩))) w') : WL P n os (o :: l) K F w := by
 subst hc
 refine Zf2 hg (fun hok => ?_) (hk w.heap.size (w.alloc (.cells v.cells t)) (Z.new _))
 have e := Zc (F := F) hok (x := x) (by simp [ho, Op.operands])
 simp [execOp, ho, e, hv, Instr.box, newVar, newRow, newObj]
 rfl
theorem JL {b off : Nat} {cs : Array Value} {t : TypeId} (h : w.heap[b]? = some (.cells cs t (0, 0))) : w.frozen? ⟨b, off, none⟩ = false := by simp [World.frozen?, h]
theorem St.heap (Z : St g L w) (i : Nat) {b : Nat} {ob : Obj} (hi : L[i]? = some (ZN b ob)) : w.heap[b]? = some ob := by
 obtain ⟨o1, r, hA, ho, hr⟩ := Z.get i hi
 exact ho _ _ hA
theorem St.setRow {b t : Nat} {cs cs' : Array Value} (h : St g (Zd b cs t :: L) w) : St g (Zd b cs' t :: L) (w.setRow b cs') := by
 refine h.upd rfl rfl rfl (by simp [World.setRow]) fun o1 r hA hw _ _ => ⟨fun k => if k = b then some (.cells cs' t (0, 0)) else none, by simp [ZN], fun k x hx => ?_, fun k hk => ?_, fun k hk hn => ?_⟩
 ·simp only at hx
  split at hx
  ·rename_i hk; subst hk
   simp only [Option.some.injEq] at hx; subst hx
   exact setRow_heap w _ cs cs' t _ (hw _ _ hA)
  ·cases hx
 ·simp only [ne_eq, ite_eq_right_iff, reduceCtorEq, imp_false, Classical.not_not] at hk
  subst hk
  exact .inl (by rw [show o1 k = some (.cells cs t (0, 0)) from hA]; simp)
 ·refine setRow_other w b k cs' fun e => ?_
  have : o1 k = some (.cells cs t (0, 0)) := by rw [e]; exact hA
  rw [hn] at this; cases this
def spl (cs : Array Value) (off : Nat) (vs : List Value) : Array Value := (cs.toList.take off ++ vs ++ cs.toList.drop (off + vs.length)).toArray
theorem X3 {t off b : Nat} {t' : TypeId} {cs : Array Value} {v : Value} (hs : ∃ i, P.info? t = some i ∧ i.size = v.cells.size) (hh : w.heap[b]? = some (.cells cs t' (0, 0))) (h1 : ∀ u ∈ v.cells.toList, u.oneCell' = true)
  (hc : off + v.cells.size ≤ cs.size) : (storeVar t ⟨b, off, none⟩ v).run P w = .ok () (w.setRow b (spl cs off v.cells.toList)) := by
 have h2 := run_storeCells_at P b off t' v.cells.toList 0 cs w hh (by simpa using hc) h1
 simp only [Nat.add_zero] at h2
 simp only [storeVar, Sem.run_bind, ZI w hs, Result.andThen_ok, ne_eq, not_true_eq_false, if_false, h2]
 rfl
theorem Zfn {o : Oper} {t : TypeId} {x y : Operand} {b off : Nat} {cs : Array Value} {t' : TypeId} {v : Value} (hg : o.guard = none) (hd : o.dst = none) (ho : o.op = .store t x y) (i : Nat) (Z : St g L w) (hi : L[i]? = some (Zd b cs t')) (hx : ev F x = .pointer (some ⟨b, off, none⟩)) (hv : ev F y = v)
  (h1 : v.oneCell' = true) (hc : Nat.blt off cs.size = true) (ht : mem T.ones t = true) (hk : ∀ w', St g (L.set i (Zd b (cs.setIfInBounds off v) t')) w' → WL P n os l K F w') : WL P n os (o :: l) K F w := by
 have hc := YL.1 hc
 have hh := Z.heap i hi
 have hcs : v.cells = #[v] := by cases v <;> simp [Value.oneCell'] at h1 <;> rfl
 have hS' : St g (L.set i (Zd b (cs.setIfInBounds off v) t')) (w.setCell ⟨b, off, none⟩ v) := ((Z.at_ i hi).set0 v).back i hi
 refine Zgj hg hd (fun hok => ?_) (hk _ hS')
 have e1 := Zc (F := F) hok (x := x) (by simp [ho, Op.operands])
 have e2 := Zc (F := F) hok (x := y) (by simp [ho, Op.operands])
 obtain ⟨_, _, h3⟩ := Tab.one (P := P) ht
 have hcell : w.cell? ⟨b, off, none⟩ = some cs[off] := by rw [cell_of_row w b off cs t' (0, 0) hh]; simp [hc]
 have hst : (storeVar t ⟨b, off, none⟩ v).run P w = .ok () (w.setCell ⟨b, off, none⟩ v) := by
  simp only [storeVar, Sem.run_bind, ZI w h3, Result.andThen_ok, hcs, storeCells]
  simp [Addr.add, run_store _ _ _ _ _ h1, hcell, JL hh]
 simp only [execOp, ho, e1, e2, hx, hv, Instr.storeAt, Instr.sureAddr, Sem.run_bind, Sem.run_pure, Result.andThen_ok, hst]
theorem Zfu {o : Oper} {t : TypeId} {x y : Operand} {b : Nat} {cs vs : Array Value} {t' : TypeId} (hg : o.guard = none) (hd : o.dst = none) (ho : o.op = .store t x y) (i : Nat) (Z : St g L w) (hi : L[i]? = some (Zd b cs t')) (hx : ev F x = .pointer (some ⟨b, 0, none⟩)) (hv : ev F y = .agg vs)
  (h1 : vs.toList.all (·.oneCell') = true) (hc : vs.size = cs.size) (ht : Xl P t vs.size) (hk : ∀ w', St g (L.set i (Zd b vs t')) w' → WL P n os l K F w') : WL P n os (o :: l) K F w := by
 have hh := Z.heap i hi
 have hspl : spl cs 0 vs.toList = vs := by
  unfold spl
  have : cs.toList.drop (0 + vs.toList.length) = [] := List.drop_eq_nil_of_le (by simp; omega)
  rw [this]; simp
 have hS' : St g (L.set i (Zd b vs t')) (w.setRow b vs) := (St.setRow (Z.at_ i hi)).back i hi
 refine Zgj hg hd (fun hok => ?_) (hk _ hS')
 have e1 := Zc (F := F) hok (x := x) (by simp [ho, Op.operands])
 have e2 := Zc (F := F) hok (x := y) (by simp [ho, Op.operands])
 have hst := X3 (P := P) (t := t) (off := 0) (v := .agg vs) ht.2.2 hh (fun u hu => List.all_eq_true.1 h1 u hu) (by show 0 + vs.size ≤ _; omega)
 rw [show (Value.agg vs).cells.toList = vs.toList from rfl, hspl] at hst
 simp only [execOp, ho, e1, e2, hx, hv, Instr.storeAt, Instr.sureAddr, Sem.run_bind, Sem.run_pure, Result.andThen_ok, hst]
theorem Z3 {t m b off : Nat} {cs : List Value} (ht : Xl P t m) (hl : cs.length = m) (h : ∀ (j : Nat) (u : Value), cs[j]? = some u → w.cell? ⟨b, off + j, none⟩ = some u) : (loadVar t ⟨b, off, none⟩).run P w = .ok (.agg cs.toArray) w := by
 have h2 := run_loadCells_list (P := P) w ⟨b, off, none⟩ cs (fun j v hj => by rw [show (⟨b, off, none⟩ : Addr).add j = ⟨b, off + j, none⟩ by unfold Addr.add; split <;> simp_all]; exact h j v hj)
 rw [hl] at h2
 simp only [loadVar, Sem.run_bind, YX w ht.1, ht.2.1, Result.andThen_ok, if_true, ZI w ht.2.2, h2, Sem.run_pure]
theorem Zfy {o : Oper} {t : TypeId} {x : Operand} {b : Nat} {cs : Array Value} {t' : TypeId} (hg : o.guard = none) (ho : o.op = .load t x) (i : Nat) (Z : St g L w) (hi : L[i]? = some (Zd b cs t')) (hx : ev F x = .pointer (some ⟨b, 0, none⟩)) (ht : Xl P t cs.size)
  (hk : WL P n os l K (Zy F o.dst (.agg cs)) w) : WL P n os (o :: l) K F w := by
 refine Zf2 hg (fun hok => ?_) hk
 have e1 := Zc (F := F) hok (x := x) (by simp [ho, Op.operands])
 have hl := Z3 (P := P) (w := w) (b := b) (off := 0) (cs := cs.toList) ht (by simp) (fun j u hj => by rw [Nat.zero_add]; exact Z.ld i hi (by simpa using hj))
 simp only [execOp, ho, e1, hx, Instr.loadAt, Instr.sureAddr, Sem.run_bind, Sem.run_pure, Result.andThen_ok, hl, Array.toArray_toList]
theorem Zf9 {o : Oper} {t : TypeId} {x : Operand} {b off : Nat} (hg : o.guard = none) (ho : o.op = .load t x) (cs : List Value) (ht : Xl P t cs.length) (hx : ev F x = .pointer (some ⟨b, off, none⟩)) (hc : ∀ (j : Nat) (u : Value), cs[j]? = some u → w.cell? ⟨b, off + j, none⟩ = some u)
  (hk : WL P n os l K (Zy F o.dst (.agg cs.toArray)) w) : WL P n os (o :: l) K F w := by
 refine Zf2 hg (fun hok => ?_) hk
 have e1 := Zc (F := F) hok (x := x) (by simp [ho, Op.operands])
 simp only [execOp, ho, e1, hx, Instr.loadAt, Instr.sureAddr, Sem.run_bind, Sem.run_pure, Result.andThen_ok, Z3 ht rfl hc]
theorem Zfw {o : Oper} {t e : TypeId} {z : Array Value} {size bytes m c : Nat} {x y : Operand} {a : Option Addr} {kk : IntKind} {i : Int} (hg : o.guard = none) (ho : o.op = .indexAddr t x y) (k : Nat) (hE : Elem P t e z size bytes) (hx : ev F x = .slice a m c) (hy : ev F y = .int kk i) (hik : i = k) (hlt : k < m) (hA : IsA a)
  (hk : WL P n os l K (Zy F o.dst (.pointer (some ⟨bo a, oo a + k * size, none⟩))) w) : WL P n os (o :: l) K F w := by
 refine Zf2 hg (fun hok => ?_) hk
 have e1 := Zc (F := F) hok (x := x) (by simp [ho, Op.operands])
 have e2 := Zc (F := F) hok (x := y) (by simp [ho, Op.operands])
 obtain ⟨b, off, rfl⟩ := hA
 obtain ⟨info, zv, h1, h2, h3, h4, h5⟩ := hE.info
 subst hik
 have hr : (0 : Int) ≤ k ∧ (k : Int) < m := by omega
 have hadd : (⟨b, off, none⟩ : Addr).add (k * size) = ⟨b, off + k * size, none⟩ := by unfold Addr.add; split <;> simp_all
 simp only [execOp, ho, e1, hx, e2, hy, Instr.indexAt, asIntOf, Sem.run_bind, Sem.run_pure, Result.andThen_ok, run_underlying hE.und, hr, and_self, if_true]
 simp [sizeOf, typeInfo, h1, h4, hadd, bo, oo]
end
end Go.V
namespace Go.V
open Go Go.RowKit
def Rm (n bytes : Nat) : Prop := n ≤ maxLen ∧ n * bytes ≤ 140737488355328
theorem Rm.of {n bytes : Nat} (h : n ≤ 1000000000) (hb : bytes ≤ 1000) : Rm n bytes := by
 refine ⟨by unfold maxLen; omega, ?_⟩
 have := Nat.mul_le_mul h hb
 omega
structure Src (w : World) (size : Nat) (ms : List (List Value)) (a : Option Addr) : Prop where
 ok : OkE size ms
 rd : 0 < ms.length → IsA a ∧ ∀ (j : Nat) (u : Value), ms.flatten[j]? = some u → w.cell? ⟨bo a, oo a + j, none⟩ = some u
section
variable {P : Program} {T : Tab} [hT : TabOk P T] {n : Nat} {os l : List Oper} {K : Kt} {F : Fm} {w g : World} {L : List HP} {e size bytes c : Nat} {z : Array Value} {ls ms : List (List Value)} {a : Option Addr}
theorem St.srcS (h : St g L w) (i : Nat) (hi : L[i]? = some (Sh e size ls a c)) : Src w size ls a := by
 obtain ⟨o1, r, ⟨h1, h2, h3⟩, ho, hr⟩ := h.get i hi
 refine ⟨h1, fun hl => ?_⟩
 obtain ⟨b, off, cur, t, fz, rfl, q2, q3⟩ := h3 hl
 refine ⟨⟨b, off, rfl⟩, fun j u hu => ?_⟩
 rw [show bo (some ⟨b, off, none⟩) = b from rfl, show oo (some ⟨b, off, none⟩) = off from rfl, cell_of_row w b _ cur t fz (hr _ _ q2)]
 exact q3 j u hu
theorem St.srcO (h : St g L w) (i : Nat) (hi : L[i]? = some (Ze e size ls a c)) : Src w size ls a := by
 obtain ⟨o1, r, ⟨h1, h2⟩, ho, hr⟩ := h.get i hi
 refine ⟨h1, fun hl => ?_⟩
 rcases h2 with ⟨_, _, rfl⟩ | ⟨b, cur, rfl, q2, q3, q4, q5, q6⟩
 ·simp at hl
 ·refine ⟨⟨b, 0, rfl⟩, fun j u hu => ?_⟩
  rw [show bo (some ⟨b, 0, none⟩) = b from rfl, show oo (some ⟨b, 0, none⟩) = 0 from rfl, cell_of_row w b _ cur e (0, 0) (ho _ _ q2), Nat.zero_add]
  rw [← q6, List.getElem?_take] at hu
  split at hu
  ·simpa using hu
  ·cases hu
theorem Src.nil : Src w size [] a := ⟨OkE.nil _, fun h => by simp at h⟩
theorem Zaa {t ty : TypeId} {a2 : Option Addr} {c2 : Nat} (hE : Elem P t e z size bytes) (Z : St g (Ze e size ls a c :: L) w) (hsrc : Src w size ms a2) (hr : Rm (ls.length + ms.length) bytes) :
  ∃ a' c' w', (Builtin.append_ #[t, t] ty #[.slice a ls.length c, .slice a2 ms.length c2]).run P w = .ok (.slice a' (ls.length + ms.length) c') w' ∧ St g (Ze e size (ls ++ ms) a' c' :: L) w' := by
 obtain ⟨i, zv, i1, i2, i3, i4, i5⟩ := hE.info
 have hnew : ∀ (cap : Nat) (rest : Array Value), ls.length + ms.length ≤ cap → cap ≤ maxLen → rest.size = (cap - (ls.length + ms.length)) * size → OkE size ls →
   ∀ w1 : World, St g (Ze e size ls a c :: L) w1 → St g (Ze e size (ls ++ ms) (some ⟨w1.heap.size, 0, none⟩) cap :: L) (w1.alloc (.cells ((ls.flatten.toArray ++ ms.flatten.toArray) ++ rest) e)) := by
  intro cap rest h1 h2 h3 hok w1 hS1
  have h4 := (hS1.new (.cells ((ls.flatten.toArray ++ ms.flatten.toArray) ++ rest) e)).swap.tail
  refine h4.impl fun o r hb => ⟨hok.app hsrc.ok, .inr ⟨_, _, rfl, hb, by simpa using h1, h2, ?_, ?_⟩⟩
  ·simp only [Array.size_append, List.size_toArray, Zw _ _ hok.len, Zw _ _ hsrc.ok.len, h3, ← Nat.add_mul]
   congr 1; omega
  ·simp only [Array.toList_append, List.flatten_append, List.length_append]
   refine List.take_left' ?_
   simp [Zw _ _ hok.len, Zw _ _ hsrc.ok.len, Nat.add_mul]
 have hcapm : ∀ (w1 : World) (old : Nat), grownCap w1 (ls.length + ms.length) old e ≤ maxLen := fun w1 old => grownCap_le_maxLen w1 _ old e hr.1
 have hzc : ∀ k : Nat, (Builtin.zeroCells zv.cells k).size = k * size := fun k => by rw [size_zeroCells, i3, hE.zsz]
 have h63 : ls.length + ms.length ≤ 9223372036854775807 := by have := hr.1; simp only [maxLen] at this; omega
 obtain ⟨o1, r, hA, ho, hrw⟩ := Z.get 0 rfl
 obtain ⟨hok, hform⟩ := hA
 by_cases hm : ms.length = 0
 ·have hms : ms = [] := List.eq_nil_of_length_eq_zero hm
  subst hms
  refine ⟨a, c, w, ?_, by simpa using Z⟩
  rcases hform with ⟨rfl, rfl, rfl⟩ | ⟨b, cur, rfl, q2, q3, q4, q5, q6⟩
  ·cases a2 <;> simp [Builtin.append_, run_underlying hE.und, sizeOf, typeInfo, i1, Builtin.lenOf, Builtin.firstCells, loadCells, loadCellsFrom]
  ·cases a2 <;> simp [Builtin.append_, run_underlying hE.und, sizeOf, typeInfo, i1, Builtin.lenOf, Builtin.firstCells, loadCells, loadCellsFrom, q3, storeCells]
 ·obtain ⟨⟨b2, off2, rfl⟩, hcells⟩ := hsrc.rd (by omega)
  have hnews : ∀ (j : Nat) (v : Value), ms.flatten[j]? = some v → w.cell? ((⟨b2, off2, none⟩ : Addr).add j) = some v := fun j v hj => by
   rw [show (⟨b2, off2, none⟩ : Addr).add j = ⟨b2, off2 + j, none⟩ by unfold Addr.add; split <;> simp_all]; exact hcells j v hj
  have hml : ms.flatten.length = ms.length * i.size := by rw [Zw _ _ hsrc.ok.len, i4]
  rcases hform with ⟨rfl, rfl, rfl⟩ | ⟨b, cur, rfl, q2, q3, q4, q5, q6⟩
  ·have h48 : ms.length * i.bytes ≤ 281474976710656 := by have := hr.2; simp at this; rw [i5]; omega
   have h1 := run_append_nil (P := P) w t ty e i zv hE.und i1 i2 ⟨b2, off2, none⟩ ms.length c2 ms.flatten hml hnews (by omega) (by simp at h63; omega) h48
   refine ⟨_, _, _, by simpa using h1, ?_⟩
   have h2 := hnew (grownCap w ms.length 0 e) (Builtin.zeroCells zv.cells (grownCap w ms.length 0 e - ms.length)) (by simpa using grownCap_ge w ms.length 0 e) (by simpa using hcapm w 0) (by simp [hzc]) (OkE.nil _) w.drew Z.drew
   simpa using h2
  ·by_cases hroom : ls.length + ms.length ≤ c
   ·have hh := ho _ _ q2
    have hfit : ls.length * i.size + ms.flatten.length ≤ cur.size := by rw [hml, i4, q5, ← Nat.add_mul]; exact Nat.mul_le_mul_right _ hroom
    have h1 := run_append_room (P := P) w t ty e i hE.und i1 b ls.length c cur hh ⟨b2, off2, none⟩ ms.length c2 ms.flatten hml hnews hsrc.ok.one hroom hfit
    refine ⟨_, _, _, h1, ?_⟩
    refine Z.upd rfl rfl rfl (by simp [World.setRow]) fun o2 r2 hB hw2 _ _ => ?_
    obtain ⟨_, hB2⟩ := hB
    rcases hB2 with ⟨hx, _⟩ | ⟨b', cur', hx, p2, p3, p4, p5, p6⟩
    ·cases hx
    ·simp only [Option.some.injEq, Addr.mk.injEq, and_true] at hx
     subst hx
     have hcur : cur' = cur := by
      have := hw2 _ _ p2
      rw [hh] at this
      injection this with this; injection this with this _ _; exact this.symm
     subst hcur
     refine ⟨fun k => if k = b then some (.cells (cur'.toList.take (ls.length * i.size) ++ ms.flatten ++ cur'.toList.drop (ls.length * i.size + ms.flatten.length)).toArray e (0, 0)) else none, ⟨hok.app hsrc.ok, .inr ⟨b, _, rfl, if_pos rfl, by simpa using hroom, q4, ?_, ?_⟩⟩, fun k x hk => ?_, fun k hk => ?_, fun k hk hn => ?_⟩
     ·simp only [List.size_toArray, List.length_append, List.length_take, List.length_drop, Array.length_toList]
      omega
     ·rw [i4, q6, List.flatten_append]
      refine List.take_left' ?_
      simp [Zw _ _ hok.len, Zw _ _ hsrc.ok.len, Nat.add_mul]
     ·simp only at hk
      split at hk
      ·rename_i hkb; subst hkb
       simp only [Option.some.injEq] at hk; subst hk
       exact setRow_heap w _ cur' _ e _ hh
      ·cases hk
     ·simp only [ne_eq, ite_eq_right_iff, reduceCtorEq, imp_false, Classical.not_not] at hk
      subst hk
      exact .inl (by rw [p2]; simp)
     ·refine setRow_other w b k _ fun e' => ?_
      rw [e', p2] at hn; cases hn
   ·have holds : ∀ (j : Nat) (v : Value), ls.flatten[j]? = some v → w.cell? ((⟨b, 0, none⟩ : Addr).add j) = some v := fun j v hj => by
     rw [show (⟨b, 0, none⟩ : Addr).add j = ⟨b, j, none⟩ by unfold Addr.add; split <;> simp_all, cell_of_row w b j cur e (0, 0) (ho _ _ q2)]
     rw [← q6, List.getElem?_take] at hj
     split at hj
     ·simpa using hj
     ·cases hj
    have h1 := run_append_grow (P := P) w t ty e i zv hE.und i1 i2 ⟨b, 0, none⟩ ls.length c ls.flatten (by rw [Zw _ _ hok.len, i4]) holds ⟨b2, off2, none⟩ ms.length c2 ms.flatten hml hnews (by omega) (by omega) (growslice_fits (by omega) (by rw [i5]; exact hr.2))
    refine ⟨_, _, _, h1, ?_⟩
    exact hnew (grownCap w (ls.length + ms.length) c e) _ (grownCap_ge w _ c e) (hcapm w c) (hzc _) hok w.drew Z.drew
theorem Zfz {o : Oper} {t : TypeId} {s x : Operand} {a2 : Option Addr} {c2 : Nat} (hg : o.guard = none) (ho : o.op = .call { callee := .builtin .append, args := #[s, x], argTypes := #[t, t] }) (i : Nat) (rs : List (List Value)) (hE : Elem P t e z size bytes) (Z : St g L w) (hi : L[i]? = some (Ze e size ls a c)) (hsrc : Src w size ms a2) (hrs : ls ++ ms = rs) (hr : Rm rs.length bytes)
  (hs : ev F s = .slice a ls.length c) (hx : ev F x = .slice a2 ms.length c2)
  (hk : ∀ a' c' w', St g (L.set i (Ze e size rs a' c')) w' → WL P n os l K (Zy F o.dst (.slice a' rs.length c')) w') : WL P n os (o :: l) K F w := by
 subst hrs
 rw [List.length_append] at hr
 obtain ⟨a', c', w', hrun, hS'⟩ := Zaa (ty := o.type) (c2 := c2) hE (Z.at_ i hi) hsrc hr
 have hk' := hk a' c' w' (hS'.back i hi)
 rw [List.length_append] at hk'
 refine Zf2 hg (fun hok => ?_) hk'
 have e1 := Zc (F := F) hok (x := s) (by simp [ho, Op.operands, Call.operands])
 have e2 := Zc (F := F) hok (x := x) (by simp [ho, Op.operands, Call.operands])
 simp only [execOp, ho, resolve, invoke, builtin, Sem.run_bind, Sem.run_pure, Result.andThen_ok, List.map_toArray, List.map_cons, List.map_nil, e1, e2, hs, hx, hrun]
def QS : List Value → Nat → List Value → List Value
 | cs, 0, [] => cs
 | [], _, _ => []
 | _ :: cs, 0, v :: vs => v :: QS cs 0 vs
 | c :: cs, k + 1, vs => c :: QS cs k vs
theorem XA : ∀ (cs : List Value) (off : Nat) (vs : List Value), off + vs.length ≤ cs.length → QS cs off vs = cs.take off ++ vs ++ cs.drop (off + vs.length)
 | cs, 0, [], _ => by simp [QS]
 | [], 0, v :: vs, h => by simp at h
 | [], k + 1, vs, h => by simp at h
 | c :: cs, 0, v :: vs, h => by
  have := XA cs 0 vs (by simp at h ⊢; omega)
  simp only [QS, this, List.take_zero, List.nil_append, List.length_cons, Nat.zero_add, List.drop_succ_cons, List.cons_append]
 | c :: cs, k + 1, vs, h => by
  have := XA cs k vs (by simp at h ⊢; omega)
  simp only [QS, this, List.take_succ_cons, List.cons_append]
  rw [show k + 1 + vs.length = (k + vs.length) + 1 by omega, List.drop_succ_cons]
theorem Qv : ∀ (vs : List Value) (k off : Nat) (cells : Array Value), off + k + vs.length ≤ cells.size →
  (vs.zipIdx k).foldl (fun (cs : Array Value) (x : Value × Nat) => cs.setIfInBounds (off + x.2) x.1) cells = (QS cells.toList (off + k) vs).toArray
 | [], k, off, cells, h => by
  rw [XA _ _ _ (by simpa using h)]
  simp
 | v :: vs, k, off, cells, h => by
  simp only [List.length_cons] at h
  rw [List.zipIdx_cons, List.foldl_cons, Qv vs (k + 1) off _ (by simp; omega), XA _ _ _ (by simp; omega), XA _ _ _ (by simp; omega)]
  congr 1
  simp only [Array.toList_setIfInBounds, List.length_cons]
  rw [List.set_eq_take_append_cons_drop, if_pos (by simp; omega)]
  have h1 : (cells.toList.take (off + k)).length = off + k := by simp; omega
  have h2 : (cells.toList.take (off + k) ++ v :: cells.toList.drop (off + k + 1)).take (off + (k + 1)) = cells.toList.take (off + k) ++ [v] := by
   rw [show off + (k + 1) = (cells.toList.take (off + k)).length + 1 by omega, List.take_length_add_append]; simp
  have h3 : (cells.toList.take (off + k) ++ v :: cells.toList.drop (off + k + 1)).drop (off + (k + 1) + vs.length) = cells.toList.drop (off + k + (vs.length + 1)) := by
   rw [show off + (k + 1) + vs.length = (cells.toList.take (off + k)).length + (vs.length + 1) by omega, List.drop_length_add_append, List.drop_succ_cons, List.drop_drop]
   congr 1; omega
  rw [h2, h3]; simp
def XH (pl : Nat → Option (Nat × Nat)) : List Value → List (Nat × Value) → Option (List Value)
 | cs, [] => some cs
 | cs, (i, v) :: r => match pl i with
  | some (off, sz) => bif Nat.beq v.cells.toList.length sz && Nat.ble (off + sz) cs.length then XH pl (QS cs off v.cells.toList) r else none
  | none => none
theorem XY (pl : Nat → Option (Nat × Nat)) : ∀ (parts : List (Nat × Value)) (cs cs' : List Value), XH pl cs parts = some cs' → Instr.fill pl cs.toArray parts = some cs'.toArray
 | [], cs, cs', h => by simp [XH] at h; subst h; rfl
 | (i, v) :: r, cs, cs', h => by
  simp only [XH] at h
  cases hp : pl i with
  | none => simp [hp] at h
  | some q =>
   obtain ⟨off, sz⟩ := q
   simp only [hp] at h
   cases hb : (Nat.beq v.cells.toList.length sz && Nat.ble (off + sz) cs.length) with
   | false => rw [hb] at h; simp at h
   | true =>
    simp only [hb, cond_true] at h
    simp only [Bool.and_eq_true] at hb
    have h1 := Nat.eq_of_beq_eq_true hb.1
    have h2 := Nat.le_of_ble_eq_true hb.2
    have h1' : v.cells.size = sz := by simpa using h1
    simp only [Instr.fill, hp]
    rw [if_neg (by simp [h1']; omega)]
    have h3 := Qv v.cells.toList 0 off cs.toArray (by simp; omega)
    have h4 : v.cells.zipIdx.foldl (fun cs (x : Value × Nat) => cs.setIfInBounds (off + x.2) x.1) cs.toArray = (QS cs off v.cells.toList).toArray := by
     rw [← Array.foldl_toList, Array.toList_zipIdx]
     simpa using h3
    rw [h4]
    exact XY pl r _ _ h
def Do (F : Fm) : List (Nat × Operand) → List (Nat × Value)
 | [] => []
 | (i, x) :: r => (i, ev F x) :: Do F r
theorem CT (F : Fm) : ∀ l, Do F l = l.map fun p => (p.1, ev F p.2)
 | [] => rfl
 | (i, x) :: r => by simp [Do, CT F r]
def Cd (pl : List (Nat × Nat × Bool)) (i : Nat) : Option (Nat × Nat) := match Cc pl i with | some r => some (r.1, r.2.1) | none => none
theorem JC {o : Oper} {ps : List (Nat × Operand)} (hok : QC n o = true) (h : ∀ p ∈ ps, p.2 ∈ o.op.operands.toList) : (ps.toArray.map fun p => (p.1, (ZU n F).eval p.2)).toList = Do F ps := by
 rw [CT]
 simp only [List.map_toArray]
 refine List.map_congr_left fun p hp => ?_
 rw [Zc (F := F) hok (h p hp)]
theorem Zf7 {o : Oper} {t : TypeId} {ps : List (Nat × Operand)} {pl : List (Nat × Nat × Bool)} {cs : List Value} (hg : o.guard = none) (ho : o.op = .build t ps.toArray) (hz : ZV P t z) (hf : lk T.flds t = some pl) (h : XH (Cd pl) z.toList (Do F ps) = some cs)
  (hk : WL P n os l K (Zy F o.dst (.agg cs.toArray)) w) : WL P n os (o :: l) K F w := by
 obtain ⟨i, zv, h1, h2, h3⟩ := hz
 obtain ⟨h4, fs, h5, h6⟩ := (Tab.parts (P := P) (T := T)).2.2.2.2.2.1 _ (Jo _ _ _ hf)
 refine Zf2 hg (fun hok => ?_) hk
 have hev := JC (F := F) (ps := ps) hok (fun p hp => by
  simp only [ho, Op.operands]
  exact List.mem_map.2 ⟨p, by simpa using hp, rfl⟩)
 have hpl : (fs.toList.mapM fun (f : Field) => (do pure (f.offset, ← sizeOf f.type) : Sem (Nat × Nat))).run P w = .ok (pl.map fun r => (r.1, r.2.1)) w := by
  refine Xr _ w _ _ (by simpa using h6) fun j f r hj hr => ?_
  rw [List.getElem?_map] at hr
  cases hq : pl[j]? with
  | none => simp [hq] at hr
  | some r0 =>
   simp only [hq, Option.map_some, Option.some.injEq] at hr
   have h7 := Yt pl 0 h4 j r0 hq
   simp only [Nat.zero_add, X', h5] at h7
   have hj' : fs[j]? = some f := by simpa using hj
   simp only [hj', Bool.and_eq_true, beq_iff_eq] at h7
   obtain ⟨⟨⟨⟨q1, q2⟩, _⟩, _⟩, _⟩ := h7
   split at q2
   ·rename_i info hinfo
    simp only [Sem.run_bind, ZI w ⟨info, hinfo, rfl⟩, Result.andThen_ok, Sem.run_pure, ← hr, q1]
    simp at q2; rw [q2]
   ·cases q2
 have hfill := XY (Cd pl) (Do F ps) z.toList cs h
 have e0 : (fun i => ((pl.map fun r => (r.1, r.2.1)).toArray)[i]?) = Cd pl := by
  funext i
  simp only [Cd, Yo, List.getElem?_toArray, List.getElem?_map]
  cases pl[i]? <;> rfl
 have e1 : fs = fs.toList.toArray := by simp
 have e2 : (fs.mapM fun (f : Field) => (do pure (f.offset, ← sizeOf f.type) : Sem (Nat × Nat))).run P w = .ok (pl.map fun r => (r.1, r.2.1)).toArray w := by
  rw [e1, List.mapM_toArray]
  simp only [Sem.run_map, hpl, Result.andThen_ok]
 simp only [Array.toArray_toList] at hfill
 have hzv : (zeroValue t).run P w = .ok zv w := by simp [zeroValue, typeInfo, h1, h2]
 simp only [execOp, ho, Instr.build, Sem.run_bind, hzv, Sem.run_pure, Result.andThen_ok, run_underlying h5, h3, e2, e0, hev, hfill]
def Y' (F : Fm) : Nat → List (Nat × Operand) → List (List Value) → Prop
 | _, [], [] => True
 | k, [(i, x)], [q] => i = k ∧ (ev F x).cells.toList = q
 | k, (i, x) :: r, q :: ls => i = k ∧ (ev F x).cells.toList = q ∧ Y' F (k + 1) r ls
 | _, _, _ => False
theorem Ub {k i : Nat} {x : Operand} {r : List (Nat × Operand)} {q : List Value} {ls : List (List Value)} (h : Y' F k ((i, x) :: r) (q :: ls)) : i = k ∧ (ev F x).cells.toList = q ∧ Y' F (k + 1) r ls := by
 cases r with
 | nil => cases ls with
  | nil => exact ⟨h.1, h.2, trivial⟩
  | cons => exact h
 | cons => exact h
theorem JR (hsz : 0 < size) : ∀ (ps : List (Nat × Operand)) (ls : List (List Value)) (k : Nat) (pre post : List Value), Y' F k ps ls → OkE size ls → pre.length = k * size → post.length = ls.length * size →
  XH (fun i => some (i * size, size)) (pre ++ post) (Do F ps) = some (pre ++ ls.flatten)
 | [], [], k, pre, post, _, _, _, hp => by
  have : post = [] := List.eq_nil_of_length_eq_zero (by simpa using hp)
  subst this; simp [Do, XH]
 | [], _ :: _, _, _, _, h, _, _, _ => by simp [Y'] at h
 | (i, x) :: r, [], _, _, _, h, _, _, _ => by cases r <;> simp [Y'] at h
 | (i, x) :: r, q :: ls, k, pre, post, h, hok, hpre, hpost => by
  obtain ⟨rfl, hq, hr⟩ := Ub h
  have hql : q.length = size := (hok q (by simp)).1
  have hle : i * size + size ≤ (pre ++ post).length := by simp [hpre, hpost, Nat.add_mul]
  have hb : (Nat.beq (ev F x).cells.toList.length size && Nat.ble (i * size + size) (pre ++ post).length) = true := by
   rw [hq, hql]; simp only [Nat.beq_refl, Bool.true_and]; exact Nat.ble_eq_true_of_le hle
  simp only [Do, XH]
  rw [hb, cond_true, hq]
  rw [XA _ _ _ (by rw [hql]; exact hle), hql]
  have h1 : (pre ++ post).take (i * size) = pre := List.take_left' hpre
  have h2 : (pre ++ post).drop (i * size + size) = post.drop size := by rw [← hpre, List.drop_length_add_append]
  rw [h1, h2]
  have h3 := JR hsz r ls (i + 1) (pre ++ q) (post.drop size) hr (fun y hy => hok y (by simp [hy])) (by simp [hpre, hql, Nat.add_mul]) (by simp [hpost, Nat.add_mul])
  rw [h3]; simp
theorem Zf3 {o : Oper} {t : TypeId} {m : Nat} {ps : List (Nat × Operand)} (hg : o.guard = none) (ho : o.op = .buildSlice t m ps.toArray) (ls : List (List Value)) (hE : Elem P t e z size bytes) (Z : St g L w) (h : Y' F 0 ps ls) (hls : OkE size ls) (hm : ls.length = m) (hm2 : m * size ≤ 16777216)
  (hk : ∀ b w', St g (Ze e size ls (some ⟨b, 0, none⟩) ls.length :: L) w' → WL P n os l K (Zy F o.dst (.slice (some ⟨b, 0, none⟩) ls.length ls.length)) w') : WL P n os (o :: l) K F w := by
 subst hm
 obtain ⟨i, zv, i1, i2, i3, i4, i5⟩ := hE.info
 have hS' : St g (Ze e size ls (some ⟨w.heap.size, 0, none⟩) ls.length :: L) (w.alloc (.cells ls.flatten.toArray e)) := (Z.new (.cells ls.flatten.toArray e)).impl fun o r hb =>
  ⟨hls, .inr ⟨_, _, rfl, hb, Nat.le_refl _, by
   have := Nat.mul_le_mul_left ls.length hE.pos
   unfold maxLen; omega, by simp [Zw _ _ hls.len], List.take_of_length_le (by rw [Zw _ _ hls.len]; exact Nat.le_refl _)⟩⟩
 refine Zf2 hg (fun hok => ?_) (hk w.heap.size _ hS')
 have hev := JC (F := F) (ps := ps) hok (fun p hp => by
  simp only [ho, Op.operands]
  exact List.mem_map.2 ⟨p, by simpa using hp, rfl⟩)
 have hsz : (sizeOf e).run P w = .ok size w := ZI w ⟨i, i1, i4⟩
 have hzv : (zeroValue e).run P w = .ok zv w := by simp [zeroValue, typeInfo, i1, i2]
 have hf : ∀ A : Array Value, A.size = ls.length * size → Instr.fill (fun i => some (i * size, size)) A (Do F ps) = some ls.flatten.toArray := fun A hA => by
  have := XY _ _ _ _ (JR (F := F) hE.pos ps ls 0 [] A.toList h hls (by simp) (by simpa using hA))
  simpa using this
 have hnot : ¬ (ls.length * size > 2 ^ 24) := by omega
 simp only [execOp, ho, Instr.buildSlice, Sem.run_bind, run_underlying hE.und, Result.andThen_ok, hsz, hnot, if_false, hev]
 split
 ·simp only [Sem.run_bind, Sem.run_pure, Result.andThen_ok]
  rw [hf _ (by simp)]
  rfl
 ·simp only [Sem.run_bind, hzv, Sem.run_pure, Result.andThen_ok]
  rw [hf _ (by simp)]
  rfl
end
end Go.V
namespace Go.V
open Go Go.RowKit
def Yh (os : List Oper) : List Nat → List Oper
 | [] => []
 | i :: r => match Cc os i with | some o => o :: Yh os r | none => Yh os r
theorem Yf (os : List Oper) : ∀ l, Yh os l = Plan.opsAt os.toArray l
 | [] => rfl
 | i :: r => by
  simp only [Yh, Yo, Plan.opsAt, List.filterMap_cons, List.getElem?_toArray]
  have := Yf os r
  simp only [Plan.opsAt] at this
  cases h : os[i]? <;> simp [this]
structure RQ (P : Program) (n : Nat) (os : List Oper) (w : World) (F : Fm) (o : Oper) : Prop where
 go : XS n os = true → QC n o = true → wpQuiet P os.toArray (fun w' => ∃ m, w' = w.drewN m) (fun a' => a' = ZU n F) [o] (ZU n F)
def VS (P : Program) (n : Nat) (os : List Oper) (w : World) (F : Fm) : List Oper → Prop
 | [] => True
 | [o] => RQ P n os w F o
 | o :: r => RQ P n os w F o ∧ VS P n os w F r
abbrev Stp := List (List Nat × Option (Nat × List Nat))
def PL (P : Program) (n : Nat) (os : List Oper) (next : Kt) : Stp → Fm → World → Prop
 | [], F, w => ∀ m, next F (w.drewN m)
 | (seg, none) :: rest, F, w => WQ P n os (Yh os seg) w (fun F' => PL P n os next rest F' w) F
 | (seg, some (e, re)) :: rest, F, w => WQ P n os (Yh os seg) w (fun F' => ∀ m, WL P n os (Yh os [e]) (fun F'' w'' => VS P n os w'' F'' (Yh os re) ∧ PL P n os next rest F'' w'') F' (w.drewN m)) F
section
variable {P : Program} {T : Tab} [hT : TabOk P T] {n : Nat} {os : List Oper}
theorem QU {w : World} {F : Fm} : ∀ (l : List Oper), VS P n os w F l → ∀ o ∈ l, RQ P n os w F o
 | [], _, _, h => by cases h
 | [p], h, o, hm => by simp at hm; subst hm; exact h
 | p :: q :: r, h, o, hm => by
  rcases List.mem_cons.1 hm with rfl | hm
  ·exact h.1
  ·exact QU (q :: r) h.2 o hm
theorem CJ (hos : XS n os = true) {w : World} {F : Fm} : ∀ (l : List Oper), XS n l = true → (∀ o ∈ l, RQ P n os w F o) → Plan.RE P os.toArray w (ZU n F) l
 | [], _, _ => trivial
 | o :: r, hok, h => by
  obtain ⟨h1, h2⟩ := ZG hok
  exact ⟨(h o (by simp)).go hos h1, CJ hos r h2 fun o ho => h o (by simp [ho])⟩
theorem ZT (hos : XS n os = true) : ∀ l, XS n (Yh os l) = true
 | [] => rfl
 | i :: r => by
  simp only [Yh, Yo]
  cases h : os[i]? with
  | none => exact ZT hos r
  | some o => simp only [XS, Bool.and_eq_true]; exact ⟨XZ os hos i o h, ZT hos r⟩
theorem QL (hos : XS n os = true) {Q : Exit → Act → World → Prop} {next : Kt} (hQ : ∀ F w, next F w → Q .normal (ZU n F) w) : ∀ (st : Stp) (F : Fm) (w : World), PL P n os next st F w →
  Plan.wpPlan P os.toArray (fun a w => Q .normal a w) st (ZU n F) w
 | [], F, w, h => by rintro _ ⟨m, rfl⟩; exact hQ _ _ (h m)
 | (seg, none) :: rest, F, w, h => by
  have h1 := h.go hos (ZT hos seg)
  rw [Yf os seg] at h1
  refine Plan.wpQuiet_mono ?_ _ _ h1
  rintro a ⟨F', rfl, hF'⟩
  exact QL hos hQ rest F' w hF'
 | (seg, some (e, re)) :: rest, F, w, h => by
  have h1 := h.go hos (ZT hos seg)
  rw [Yf os seg] at h1
  refine Plan.wpQuiet_mono ?_ _ _ h1
  rintro a ⟨F', rfl, hF'⟩
  rintro _ ⟨m, rfl⟩
  have h2 := (hF' m).go hos (ZT hos [e])
  rw [Yf os [e]] at h2
  refine WC.region.wpList_imp ?_ _ _ _ h2
  intro ex a w' hh
  cases ex <;> first
   | exact hh.elim
   | (obtain ⟨F'', rfl, hre, hpl⟩ := hh
      refine ⟨?_, QL hos hQ rest F'' w' hpl⟩
      rw [← Yf]
      exact CJ hos _ (ZT hos re) (QU _ hre))
theorem Zfr {id : Nat} {Q : Qt} {F : Fm} {w : World} (st : Stp) (hm : P.follows .mixedOrders = true) (hB : Plan.check os.toArray st = true) (h : PL P n os (Q .nrm) st F w) : WC P n (.region id os.toArray true) Q F w :=
 ⟨fun hok => by
  have hok' : XS n os = true := by simpa [Hx] using hok
  refine Plan.wp_plan (Q := Zbq n Q) st hm hB ?_
  exact QL hok' (fun F w hF => ⟨F, rfl, hF⟩) st F w h⟩
theorem Zff {w : World} {F : Fm} {o : Oper} {v : Value} {d : Nat} (hg : o.guard = none) (h : pv T o F = some v) (hd : o.dst = some d) (hv : F d = v) : RQ P n os w F o :=
 ⟨fun _ h2 => by
  unfold wpQuiet
  rw [if_pos (by simp [Region.wanted, hg])]
  refine ⟨v, ?_, ?_⟩
  ·rintro w' ⟨m, rfl⟩
   unfold Oper.quietAt
   rw [CR h h2 _]
   exact ⟨rfl, rfl⟩
  ·show _ = _
   rw [ZZ, hd]
   show ZU n (upd F d v) = _
   rw [XJ hv]⟩
theorem Zfq {w : World} {F : Fm} {o : Oper} {a : Addr} {d : Nat} {v : Value} (hg : o.guard = none) (h : ldO T o F = some a) (hd : o.dst = some d) (hv : F d = v) (hc : w.cell? a = some v) : RQ P n os w F o :=
 ⟨fun _ h2 => by
  unfold wpQuiet
  rw [if_pos (by simp [Region.wanted, hg])]
  refine ⟨v, ?_, ?_⟩
  ·rintro w' ⟨m, rfl⟩
   unfold Oper.quietAt
   rw [Hq h h2 (show (w.drewN m).cell? a = some v from hc)]
   exact ⟨rfl, rfl⟩
  ·show _ = _
   rw [ZZ, hd]
   show ZU n (upd F d v) = _
   rw [XJ hv]⟩
end
theorem Xn {P : Program} {t : TypeId} {v : Value} {cs : Array Value} (h : (P.info? t).map (fun i => i.zero) = some (some v)) (hc : v.cells = cs) : ZV P t cs := by
 cases hi : P.info? t with
 | none => rw [hi] at h; cases h
 | some i => rw [hi] at h; exact ⟨i, v, hi, by simpa using h, hc⟩
theorem Dt {P : Program} {t m : Nat} (h1 : (P.underlying t).isSome = true) (h2 : YR P t = true) (h : (P.info? t).map (fun i => i.size) = some m) : Xl P t m := by
 cases hi : P.info? t with
 | none => rw [hi] at h; cases h
 | some i => rw [hi] at h; exact ⟨h1, h2, i, hi, by simpa using h⟩
theorem J4 {P : Program} {t e : TypeId} {v : Value} {size bytes : Nat} {z : Array Value} (h1 : P.underlying t = some (.slice e)) (h : (P.info? e).map (fun i => (i.zero, i.size, i.bytes)) = some (some v, size, bytes)) (hc : v.cells = z) (hz : z.size = size) (hp : 0 < size)
  (ho : z.toList.all (fun u => u.oneCell') = true) : Elem P t e z size bytes := by
 cases hi : P.info? e with
 | none => rw [hi] at h; cases h
 | some i => rw [hi] at h; simp only [Option.map_some, Option.some.injEq, Prod.mk.injEq] at h; exact ⟨h1, ⟨i, v, hi, h.1, hc, h.2.1, h.2.2⟩, hz, hp, fun u hu => List.all_eq_true.1 ho u hu⟩
section
variable {P : Program} {g w : World} {L : List HP}
theorem St.lvF {t b : Nat} {cs : Array Value} {t' : TypeId} (Z : St g L w) (i : Nat) (hi : L[i]? = some (Zd b cs t')) (ht : Xl P t cs.size) : (loadVar t ⟨b, 0, none⟩).run P w = .ok (.agg cs) w := by
 have := Z3 (P := P) (w := w) (b := b) (off := 0) (cs := cs.toList) ht (by simp) (fun j u hj => by rw [Nat.zero_add]; exact Z.ld i hi (by simpa using hj))
 simpa using this
theorem Zt {ls : List (List Value)} {k : Nat} {cs : List Value} (h : ls[k]? = some cs) : k < ls.length := (List.getElem?_eq_some_iff.1 h).1
end
end Go.V
namespace Go.Plan
open Go
inductive Tr where
 | nil
 | seg (s : List Nat) (r : Tr)
 | one (s : List Nat) (e : Nat) (re : List Nat) (r : Tr)
 | two (s : List Nat) (e1 : Nat) (re1 : List Nat) (r1 : Tr) (e2 : Nat) (re2 : List Nat) (r2 : Tr)
 | three (s : List Nat) (e1 : Nat) (re1 : List Nat) (r1 : Tr) (e2 : Nat) (re2 : List Nat) (r2 : Tr) (e3 : Nat) (re3 : List Nat) (r3 : Tr)
def Yu : Tr → Nat
 | .nil => 0
 | .seg s r => s.length + Yu r
 | .one s _ _ r => s.length + (Yu r + 1)
 | .two s _ _ r1 _ _ _ => s.length + (Yu r1 + 1)
 | .three s _ _ r1 _ _ _ _ _ _ => s.length + (Yu r1 + 1)
def Ur : Tr → List Nat
 | .nil => []
 | .seg _ r => Ur r
 | .one _ e _ r => e :: Ur r
 | .two _ e1 _ r1 e2 _ r2 => e1 :: e2 :: (Ur r1 ++ Ur r2)
 | .three _ e1 _ r1 e2 _ r2 e3 _ r3 => e1 :: e2 :: e3 :: (Ur r1 ++ (Ur r2 ++ Ur r3))
def XI (ops : Array Oper) (es : Nat → Bool) (lt : Nat → List Nat) (l : Array Bool) (e : Nat) (re : List Nat) : Bool := es e && (ops[e]?).isSome && (Region.ready .any ops l).contains e && ((lt e).all fun r => !l.getD r false || re.contains r)
def X0 (ops : Array Oper) (anc : Array Nat) (es : Nat → Bool) (lt : Nat → List Nat) : Tr → Array Bool → Bool
 | .nil, listed => (Region.ready .any ops listed).isEmpty
 | .seg s r, listed => match YT ops anc es lt s listed with
  | some l => X0 ops anc es lt r l
  | none => false
 | .one s e re r, listed => match YT ops anc es lt s listed with
  | some l => XI ops es lt l e re && (Region.ready .any ops l).all (fun j => j == e) && X0 ops anc es lt r (l.setIfInBounds e true)
  | none => false
 | .two s e1 re1 r1 e2 re2 r2, listed => match YT ops anc es lt s listed with
  | some l => XI ops es lt l e1 re1 && XI ops es lt l e2 re2 && (Region.ready .any ops l).all (fun j => j == e1 || j == e2) && X0 ops anc es lt r1 (l.setIfInBounds e1 true) && X0 ops anc es lt r2 (l.setIfInBounds e2 true) && Yu r1 == Yu r2
  | none => false
 | .three s e1 re1 r1 e2 re2 r2 e3 re3 r3, listed => match YT ops anc es lt s listed with
  | some l => XI ops es lt l e1 re1 && XI ops es lt l e2 re2 && XI ops es lt l e3 re3 && (Region.ready .any ops l).all (fun j => j == e1 || j == e2 || j == e3) && X0 ops anc es lt r1 (l.setIfInBounds e1 true) && X0 ops anc es lt r2 (l.setIfInBounds e2 true) && X0 ops anc es lt r3 (l.setIfInBounds e3 true) && Yu r1 == Yu r2 && Yu r1 == Yu r3
  | none => false
def Hv (ops : Array Oper) (st : Tr) : Bool :=
 let anc := Region.before ops
 let es := fun j => (Ur st).contains j
 let lt := ltOf ops.size anc es
 Region.noSelect ops && J_ ops anc && (Yu st == ops.size) && X0 ops anc es lt st (Array.replicate ops.size false)
def Qg (P : Program) (ops : Array Oper) (next : Act → World → Prop) : Tr → Act → World → Prop
 | .nil, a, w => ∀ w', (∃ n, w' = w.drewN n) → next a w'
 | .seg s r, a, w => wpQuiet P ops (fun w' => ∃ n, w' = w.drewN n) (fun a' => Qg P ops next r a' w) (opsAt ops s) a
 | .one s e re r, a, w => wpQuiet P ops (fun w' => ∃ n, w' = w.drewN n) (fun a' => ∀ w', (∃ n, w' = w.drewN n) →
   wpList P ops (Exit.then (fun a'' w'' => RE P ops w'' a'' (opsAt ops re) ∧ Qg P ops next r a'' w'') Qo) (opsAt ops [e]) a' w') (opsAt ops s) a
 | .two s e1 re1 r1 e2 re2 r2, a, w => wpQuiet P ops (fun w' => ∃ n, w' = w.drewN n) (fun a' => ∀ w', (∃ n, w' = w.drewN n) →
   wpList P ops (Exit.then (fun a'' w'' => RE P ops w'' a'' (opsAt ops re1) ∧ Qg P ops next r1 a'' w'') Qo) (opsAt ops [e1]) a' w' ∧
   wpList P ops (Exit.then (fun a'' w'' => RE P ops w'' a'' (opsAt ops re2) ∧ Qg P ops next r2 a'' w'') Qo) (opsAt ops [e2]) a' w') (opsAt ops s) a
 | .three s e1 re1 r1 e2 re2 r2 e3 re3 r3, a, w => wpQuiet P ops (fun w' => ∃ n, w' = w.drewN n) (fun a' => ∀ w', (∃ n, w' = w.drewN n) →
   wpList P ops (Exit.then (fun a'' w'' => RE P ops w'' a'' (opsAt ops re1) ∧ Qg P ops next r1 a'' w'') Qo) (opsAt ops [e1]) a' w' ∧
   wpList P ops (Exit.then (fun a'' w'' => RE P ops w'' a'' (opsAt ops re2) ∧ Qg P ops next r2 a'' w'') Qo) (opsAt ops [e2]) a' w' ∧
   wpList P ops (Exit.then (fun a'' w'' => RE P ops w'' a'' (opsAt ops re3) ∧ Qg P ops next r3 a'' w'') Qo) (opsAt ops [e3]) a' w') (opsAt ops s) a
section
variable {P : Program} {ops : Array Oper} {anc : Array Nat} {es : Nat → Bool} {lt : Nat → List Nat} {next : Act → World → Prop}
theorem YW {l : Array Bool} {e : Nat} {re : List Nat} {M : Act → World → Prop} {N : Act → World → Prop} (h : XI ops es lt l e re = true) (hMN : ∀ a w, M a w → N a w) {a : Act} {w : World}
  (h2 : wpList P ops (Exit.then (fun a'' w'' => RE P ops w'' a'' (opsAt ops re) ∧ M a'' w'') Qo) (opsAt ops [e]) a w) :
  wpOp P ops (Qn next) e (fun a' w'' => (∀ r ∈ lt e, l.getD r false = true → JG P ops w'' r a') ∧ N a' w'') a w := by
 simp only [XI, Bool.and_eq_true, List.all_eq_true, Bool.or_eq_true, Bool.not_eq_true'] at h
 obtain ⟨⟨⟨_, hsome⟩, _⟩, hre⟩ := h
 obtain ⟨oe, hoe⟩ := Option.isSome_iff_exists.1 hsome
 simp only [opsAt, List.filterMap_cons, hoe, List.filterMap_nil] at h2
 have VR : ∀ a'' w'', (RE P ops w'' a'' (re.filterMap (ops[·]?)) ∧ M a'' w'') → ((∀ r ∈ lt e, l.getD r false = true → JG P ops w'' r a'') ∧ N a'' w'') := by
  rintro a'' w'' ⟨h3, h4⟩
  refine ⟨fun r hr hlr => ?_, hMN _ _ h4⟩
  have hmem : r ∈ re := by
   rcases hre r hr with h5 | h5
   ·rw [hlr] at h5; cases h5
   ·simpa using h5
  unfold JG qOp
  cases hro : ops[r]? with
  | none => simp
  | some ro => exact Ht _ h3 ro (List.mem_filterMap.2 ⟨r, hmem, hro⟩)
 unfold wpOp
 simp only [hoe]
 simp only [wpList] at h2
 split
 ·rename_i hwant
  rw [if_pos hwant] at h2
  rcases h2 with h2 | ⟨_, h2⟩
  ·exact .inl (Oper.wp_mono (fun a'' w'' h3 => VR a'' w'' h3) (Oper.wp_monoQ (fun e a w hne h => by cases e <;> first | exact absurd rfl hne | exact h) h2))
  ·obtain ⟨_, _, h2⟩ := h2; exact h2.elim
 ·rename_i hwant
  rw [if_neg hwant] at h2
  exact VR _ _ h2
theorem YY {l : Array Bool} {e : Nat} {re : List Nat} (h : XI ops es lt l e re = true) : es e = true ∧ e ∈ Region.ready .any ops l := by
 simp only [XI, Bool.and_eq_true] at h
 exact ⟨h.1.1.1, by simpa using h.1.2⟩
theorem VL (hsel : ∀ (j : Nat) (o : Oper) cs b, ops[j]? = some o → o.op ≠ .select cs b) (hanc : J_ ops anc = true) :
  ∀ (st : Tr) (listed : Array Bool) (a : Act) (w : World), X0 ops anc es lt st listed = true → Closed ops listed → Qg P ops next st a w → YE P ops es lt next (Yu st) listed a w := by
 intro st
 induction st with
 | nil => intro listed a w h _ hw; exact ⟨by simpa [X0] using h, hw⟩
 | seg s r ih =>
  intro listed a w h hc hw
  simp only [X0] at h
  split at h
  ·rename_i l hl
   refine YB hsel hanc (Yu r) w s listed l a hl hc ?_
   exact wpQuiet_mono (fun a' h' hc' => ih l a' w h hc' h') _ _ hw
  ·cases h
 | one s e re r ih =>
  intro listed a w h hc hw
  simp only [X0] at h
  split at h
  ·rename_i l hl
   simp only [Bool.and_eq_true, List.all_eq_true, beq_iff_eq] at h
   obtain ⟨⟨he, hready⟩, hrest⟩ := h
   obtain ⟨hes, hmem⟩ := YY he
   have hcl := Yx s listed l hl hc
   refine YB hsel hanc (Yu r + 1) w s listed l a hl hc ?_
   refine wpQuiet_mono (fun a' h' _ => ⟨fun h0 => (by rw [h0] at hmem; cases hmem), fun j hj => ?_⟩) _ _ hw
   obtain rfl := hready j hj
   rw [if_pos hes]
   intro w' hw'
   exact YW he (fun a'' w'' h4 => ih _ a'' w'' hrest (hcl.set hmem) h4) (h' w' hw')
  ·cases h
 | two s e1 re1 r1 e2 re2 r2 ih1 ih2 =>
  intro listed a w h hc hw
  simp only [X0] at h
  split at h
  ·rename_i l hl
   simp only [Bool.and_eq_true, List.all_eq_true, beq_iff_eq, Bool.or_eq_true] at h
   obtain ⟨⟨⟨⟨⟨he1, he2⟩, hready⟩, hrest1⟩, hrest2⟩, hlen⟩ := h
   obtain ⟨hes1, hmem1⟩ := YY he1
   obtain ⟨hes2, hmem2⟩ := YY he2
   have hcl := Yx s listed l hl hc
   refine YB hsel hanc (Yu r1 + 1) w s listed l a hl hc ?_
   refine wpQuiet_mono (fun a' h' _ => ⟨fun h0 => (by rw [h0] at hmem1; cases hmem1), fun j hj => ?_⟩) _ _ hw
   rcases hready j hj with rfl | rfl
   ·rw [if_pos hes1]
    intro w' hw'
    exact YW he1 (fun a'' w'' h4 => ih1 _ a'' w'' hrest1 (hcl.set hmem1) h4) (h' w' hw').1
   ·rw [if_pos hes2]
    intro w' hw'
    rw [hlen]
    exact YW he2 (fun a'' w'' h4 => ih2 _ a'' w'' hrest2 (hcl.set hmem2) h4) (h' w' hw').2
  ·cases h
 | three s e1 re1 r1 e2 re2 r2 e3 re3 r3 ih1 ih2 ih3 =>
  intro listed a w h hc hw
  simp only [X0] at h
  split at h
  ·rename_i l hl
   simp only [Bool.and_eq_true, List.all_eq_true, beq_iff_eq, Bool.or_eq_true] at h
   obtain ⟨⟨⟨⟨⟨⟨⟨⟨he1, he2⟩, he3⟩, hready⟩, hrest1⟩, hrest2⟩, hrest3⟩, hlen⟩, hlen3⟩ := h
   obtain ⟨hes1, hmem1⟩ := YY he1
   obtain ⟨hes2, hmem2⟩ := YY he2
   obtain ⟨hes3, hmem3⟩ := YY he3
   have hcl := Yx s listed l hl hc
   refine YB hsel hanc (Yu r1 + 1) w s listed l a hl hc ?_
   refine wpQuiet_mono (fun a' h' _ => ⟨fun h0 => (by rw [h0] at hmem1; cases hmem1), fun j hj => ?_⟩) _ _ hw
   rcases hready j hj with (rfl | rfl) | rfl
   ·rw [if_pos hes1]
    intro w' hw'
    exact YW he1 (fun a'' w'' h4 => ih1 _ a'' w'' hrest1 (hcl.set hmem1) h4) (h' w' hw').1
   ·rw [if_pos hes2]
    intro w' hw'
    rw [hlen]
    exact YW he2 (fun a'' w'' h4 => ih2 _ a'' w'' hrest2 (hcl.set hmem2) h4) (h' w' hw').2.1
   ·rw [if_pos hes3]
    intro w' hw'
    rw [hlen3]
    exact YW he3 (fun a'' w'' h4 => ih3 _ a'' w'' hrest3 (hcl.set hmem3) h4) (h' w' hw').2.2
  ·cases h
theorem wp_tree {id : Nat} {Q : Exit → Act → World → Prop} {a : Act} {w : World} (st : Tr) (hm : P.follows .mixedOrders = true) (hB : Hv ops st = true)
  (h : Qg P ops (fun a w => Q .normal a w) st a w) : (Code.region id ops true).wp P Q a w := by
 simp only [Hv, Bool.and_eq_true, beq_iff_eq] at hB
 obtain ⟨⟨⟨hs, hanc⟩, hlen⟩, hplan⟩ := hB
 have hcl : Closed ops (Array.replicate ops.size false) := by
  intro j o _ hj
  have : (Array.replicate ops.size false).getD j false = false := by
   rcases Nat.lt_or_ge j ops.size with h' | h'
   ·simp [h']
   ·simp [h']
  rw [this] at hj
  cases hj
 have h1 := VL (next := fun a w => Q .normal a w) (Region.noSelect_spec hs) hanc st _ a w hplan hcl h
 rw [hlen] at h1
 have h2 := Xb _ _ _ _ h1 { w with drawn := w.drawn + 1 } ⟨1, rfl⟩
 refine wp_mono (Q := Qn (fun a w => Q .normal a w)) (wp_region_any hm h2) fun e a w hq => ?_
 cases e <;> first | exact hq | exact hq.elim
end
end Go.Plan
namespace Go.V
open Go Go.RowKit Go.Plan
def PT (P : Program) (n : Nat) (os : List Oper) (next : Kt) : Tr → Fm → World → Prop
 | .nil, F, w => ∀ m, next F (w.drewN m)
 | .seg s r, F, w => WQ P n os (Yh os s) w (fun F' => PT P n os next r F' w) F
 | .one s e re r, F, w => WQ P n os (Yh os s) w (fun F' => ∀ m, WL P n os (Yh os [e]) (fun F'' w'' => VS P n os w'' F'' (Yh os re) ∧ PT P n os next r F'' w'') F' (w.drewN m)) F
 | .two s e1 re1 r1 e2 re2 r2, F, w => WQ P n os (Yh os s) w (fun F' => ∀ m, WL P n os (Yh os [e1]) (fun F'' w'' => VS P n os w'' F'' (Yh os re1) ∧ PT P n os next r1 F'' w'') F' (w.drewN m) ∧
   WL P n os (Yh os [e2]) (fun F'' w'' => VS P n os w'' F'' (Yh os re2) ∧ PT P n os next r2 F'' w'') F' (w.drewN m)) F
 | .three s e1 re1 r1 e2 re2 r2 e3 re3 r3, F, w => WQ P n os (Yh os s) w (fun F' => ∀ m, WL P n os (Yh os [e1]) (fun F'' w'' => VS P n os w'' F'' (Yh os re1) ∧ PT P n os next r1 F'' w'') F' (w.drewN m) ∧
   WL P n os (Yh os [e2]) (fun F'' w'' => VS P n os w'' F'' (Yh os re2) ∧ PT P n os next r2 F'' w'') F' (w.drewN m) ∧
   WL P n os (Yh os [e3]) (fun F'' w'' => VS P n os w'' F'' (Yh os re3) ∧ PT P n os next r3 F'' w'') F' (w.drewN m)) F
section
variable {P : Program} {T : Tab} [hT : TabOk P T] {n : Nat} {os : List Oper}
theorem Zbe (hos : XS n os = true) {Q : Exit → Act → World → Prop} {next : Kt} (hQ : ∀ F w, next F w → Q .normal (ZU n F) w) : ∀ (st : Tr) (F : Fm) (w : World), PT P n os next st F w →
  Qg P os.toArray (fun a w => Q .normal a w) st (ZU n F) w := by
 have eff : ∀ {M : Kt} {N : Act → World → Prop} (e : Nat) (re : List Nat) (hMN : ∀ F w, M F w → N (ZU n F) w) (F : Fm) (w : World), WL P n os (Yh os [e]) (fun F'' w'' => VS P n os w'' F'' (Yh os re) ∧ M F'' w'') F w →
   wpList P os.toArray (Exit.then (fun a'' w'' => RE P os.toArray w'' a'' (opsAt os.toArray re) ∧ N a'' w'') Qo) (opsAt os.toArray [e]) (ZU n F) w := fun e re hMN F w h => by
  have h2 := h.go hos (ZT hos [e])
  rw [Yf os [e]] at h2
  refine WC.region.wpList_imp ?_ _ _ _ h2
  intro ex a w' hh
  cases ex <;> first
   | exact hh.elim
   | (obtain ⟨F'', rfl, hre, hpl⟩ := hh
      refine ⟨?_, hMN F'' w' hpl⟩
      rw [← Yf]
      exact CJ hos _ (ZT hos re) (QU _ hre))
 intro st
 induction st with
 | nil => rintro F w h _ ⟨m, rfl⟩; exact hQ _ _ (h m)
 | seg s r ih =>
  intro F w h
  have h1 := h.go hos (ZT hos s)
  rw [Yf os s] at h1
  refine Plan.wpQuiet_mono ?_ _ _ h1
  rintro a ⟨F', rfl, hF'⟩
  exact ih F' w hF'
 | one s e re r ih =>
  intro F w h
  have h1 := h.go hos (ZT hos s)
  rw [Yf os s] at h1
  refine Plan.wpQuiet_mono ?_ _ _ h1
  rintro a ⟨F', rfl, hF'⟩
  rintro _ ⟨m, rfl⟩
  exact eff e re ih F' _ (hF' m)
 | two s e1 re1 r1 e2 re2 r2 ih1 ih2 =>
  intro F w h
  have h1 := h.go hos (ZT hos s)
  rw [Yf os s] at h1
  refine Plan.wpQuiet_mono ?_ _ _ h1
  rintro a ⟨F', rfl, hF'⟩
  rintro _ ⟨m, rfl⟩
  exact ⟨eff e1 re1 ih1 F' _ (hF' m).1, eff e2 re2 ih2 F' _ (hF' m).2⟩
 | three s e1 re1 r1 e2 re2 r2 e3 re3 r3 ih1 ih2 ih3 =>
  intro F w h
  have h1 := h.go hos (ZT hos s)
  rw [Yf os s] at h1
  refine Plan.wpQuiet_mono ?_ _ _ h1
  rintro a ⟨F', rfl, hF'⟩
  rintro _ ⟨m, rfl⟩
  exact ⟨eff e1 re1 ih1 F' _ (hF' m).1, eff e2 re2 ih2 F' _ (hF' m).2.1, eff e3 re3 ih3 F' _ (hF' m).2.2⟩
theorem Zgq {id : Nat} {Q : Qt} {F : Fm} {w : World} (st : Tr) (hm : P.follows .mixedOrders = true) (hB : Hv os.toArray st = true) (h : PT P n os (Q .nrm) st F w) : WC P n (.region id os.toArray true) Q F w :=
 ⟨fun hok => by
  have hok' : XS n os = true := by simpa [Hx] using hok
  refine Plan.wp_tree (Q := Zbq n Q) st hm hB ?_
  exact Zbe hok' (fun F w hF => ⟨F, rfl, hF⟩) st F w h⟩
end
end Go.V
namespace Go.V
open Go Go.RowKit
section
variable {P : Program} {T : Tab} [hT : TabOk P T] {n : Nat} {os l : List Oper} {K : Kt} {F : Fm} {w g : World} {L : List HP} {e size bytes c : Nat} {z : Array Value} {ls ms : List (List Value)} {a : Option Addr}
theorem QA : ∀ (ls : List (List Value)) (size : Nat), (∀ x ∈ ls, x.length = size) → ∀ k, k ≤ ls.length → (ls.drop k).flatten = ls.flatten.drop (k * size)
 | ls, size, _, 0, _ => by simp
 | [], size, _, k + 1, h => by simp at h
 | x :: r, size, hs, k + 1, h => by
  have := QA r size (fun y hy => hs y (by simp [hy])) k (by simpa using h)
  rw [List.drop_succ_cons, this, List.flatten_cons]
  rw [show (k + 1) * size = x.length + k * size by rw [hs x (by simp), Nat.add_mul]; omega, List.drop_length_add_append]
theorem Cz {k : Nat} (h : OkE size ls) : OkE size (ls.drop k) := fun x hx => h x (List.mem_of_mem_drop hx)
theorem X4 {k : Nat} (h : OkE size ls) : OkE size (ls.take k) := fun x hx => h x (List.mem_of_mem_take hx)
def Jw (a : Option Addr) (c l size : Nat) : Option Addr := if c = l then a else a.map (·.add (l * size))
theorem Jc {lo hi : Nat} (h1 : lo ≤ hi) (h2 : hi ≤ ls.length) {o r : Hp} (h : (Sh e size ls a c).h o r) : (Sh e size ((ls.take hi).drop lo) (Jw a c lo size) (c - lo)).h o r := by
 obtain ⟨q1, q2, q3⟩ := h
 have hl : ((ls.take hi).drop lo).length = hi - lo := by simp; omega
 refine ⟨Cz (X4 q1), by rw [hl]; omega, fun hp => ?_⟩
 rw [hl] at hp
 obtain ⟨b, off, cur, t, fz, rfl, s2, s3⟩ := q3 (by omega)
 have hne : ¬ c = lo := by omega
 refine ⟨b, off + lo * size, cur, t, fz, ?_, s2, fun j u hj => ?_⟩
 ·simp only [Jw, if_neg hne, Option.map_some]
  unfold Addr.add; split <;> simp_all
 ·rw [Nat.add_assoc]
  apply s3
  rw [QA _ size (X4 q1).len lo (by simp; omega), List.getElem?_drop] at hj
  have h5 : (ls.take hi).flatten <+: ls.flatten := by
   rw [← List.take_append_drop hi ls, List.flatten_append]
   simp
  obtain ⟨t, ht⟩ := h5
  rw [← ht, List.getElem?_append_left (List.getElem?_eq_some_iff.1 hj).1]
  exact hj
theorem Zx {t : TypeId} (hE : Elem P t e z size bytes) (lo hi : Option Value) (l h m : Nat) (hb : (Instr.sliceBounds true m c lo hi none).run P w = .ok (l, h, c) w) :
  (Instr.sliceAt t (.slice a m c) lo hi none).run P w = .ok (.slice (Jw a c l size) (h - l) (c - l)) w := by
 obtain ⟨i, zv, i1, i2, i3, i4, i5⟩ := hE.info
 simp only [Instr.sliceAt, Instr.slice, Sem.run_bind, run_underlying hE.und, Result.andThen_ok, hb, ZI w ⟨i, i1, i4⟩, Sem.run_pure, Jw]
theorem XF {kk : IntKind} {x m : Nat} {cd : BoundsCode} (h : x ≤ m) : (Instr.sliceBound (.int kk (x : Int)) m cd).run P w = .ok x w := by
 simp only [Instr.sliceBound, asIntOf, Sem.run_bind, Sem.run_pure, Result.andThen_ok]
 rw [if_pos (by omega)]
 simp
theorem Jj {kk : IntKind} {l m : Nat} (h : l ≤ m) : (Instr.sliceBounds true m c (some (.int kk (l : Int))) none none).run P w = .ok (l, m, c) w := by
 simp [Instr.sliceBounds, XF h]
theorem Xy {kk : IntKind} {h m : Nat} (hh : h ≤ c) : (Instr.sliceBounds true m c none (some (.int kk (h : Int))) none).run P w = .ok (0, h, c) w := by
 simp [Instr.sliceBounds, XF hh]
theorem Ja {kk kk' : IntKind} {l h m : Nat} (hl : l ≤ h) (hh : h ≤ c) : (Instr.sliceBounds true m c (some (.int kk (l : Int))) (some (.int kk' (h : Int))) none).run P w = .ok (l, h, c) w := by
 simp [Instr.sliceBounds, XF hh, XF hl]
theorem Zg0 {o : Oper} {t : TypeId} {x y : Operand} {kk : IntKind} {v : Int} (hg : o.guard = none) (ho : o.op = .slice t x (some y) none none) (i lo : Nat) (ms : List (List Value)) (hE : Elem P t e z size bytes) (Z : St g L w) (hi : L[i]? = some (Sh e size ls a c)) (hx : ev F x = .slice a ls.length c) (hy : ev F y = .int kk v) (hv : v = lo) (hle : lo ≤ ls.length) (hms : ls.drop lo = ms)
  (hk : ∀ a', St g (Sh e size ms a' (c - lo) :: L) w → WL P n os l K (Zy F o.dst (.slice a' ms.length (c - lo))) w) : WL P n os (o :: l) K F w := by
 subst hms; subst hv
 have h0 := (Z.dup i hi (fun _ _ h => Sh.dup h)).impl (fun o r h => Jc hle (Nat.le_refl _) h)
 rw [List.take_length] at h0
 have hk' := hk _ h0
 rw [List.length_drop] at hk'
 refine Zf2 hg (fun hok => ?_) hk'
 have e1 := Zc (F := F) hok (x := x) (by simp [ho, Op.operands])
 have e2 := Zc (F := F) hok (x := y) (by simp [ho, Op.operands])
 simp only [execOp, ho, e1, hx, Option.map_some, Option.map_none, e2, hy, Sem.run_bind, Zx hE _ _ lo ls.length ls.length (Jj hle), Result.andThen_ok, Sem.run_pure]
theorem Zg1 {o : Oper} {t : TypeId} {x y : Operand} {kk : IntKind} {v : Int} (hg : o.guard = none) (ho : o.op = .slice t x none (some y) none) (i hi : Nat) (ms : List (List Value)) (hE : Elem P t e z size bytes) (Z : St g L w) (hi' : L[i]? = some (Sh e size ls a c)) (hx : ev F x = .slice a ls.length c) (hy : ev F y = .int kk v) (hv : v = hi) (hle : hi ≤ ls.length) (hms : ls.take hi = ms)
  (hk : ∀ a', St g (Sh e size ms a' c :: L) w → WL P n os l K (Zy F o.dst (.slice a' ms.length c)) w) : WL P n os (o :: l) K F w := by
 subst hms; subst hv
 have h0 := (Z.dup i hi' (fun _ _ h => Sh.dup h)).impl (fun o r h => Jc (Nat.zero_le _) hle h)
 rw [List.drop_zero, Nat.sub_zero] at h0
 have hk' := hk _ h0
 rw [List.length_take, Nat.min_eq_left hle] at hk'
 obtain ⟨_, _, ⟨_, hc, _⟩, _, _⟩ := Z.get i hi'
 refine Zf2 hg (fun hok => ?_) hk'
 have e1 := Zc (F := F) hok (x := x) (by simp [ho, Op.operands])
 have e2 := Zc (F := F) hok (x := y) (by simp [ho, Op.operands])
 have hr := Zx (P := P) (w := w) (c := c) (a := a) hE none (some (.int kk (hi : Int))) 0 hi ls.length (Xy (by omega))
 simp only [execOp, ho, e1, hx, Option.map_some, Option.map_none, e2, hy, Sem.run_bind, hr, Result.andThen_ok, Sem.run_pure, Nat.sub_zero]
theorem Zg2 {o : Oper} {t : TypeId} {x y y' : Operand} {kk kk' : IntKind} {v v' : Int} (hg : o.guard = none) (ho : o.op = .slice t x (some y) (some y') none) (i lo hi : Nat) (ms : List (List Value)) (hE : Elem P t e z size bytes) (Z : St g L w) (hi' : L[i]? = some (Sh e size ls a c)) (hx : ev F x = .slice a ls.length c) (hy : ev F y = .int kk v) (hv : v = lo) (hy' : ev F y' = .int kk' v') (hv' : v' = hi)
  (hlh : lo ≤ hi) (hle : hi ≤ ls.length) (hms : (ls.take hi).drop lo = ms)
  (hk : ∀ a', St g (Sh e size ms a' (c - lo) :: L) w → WL P n os l K (Zy F o.dst (.slice a' ms.length (c - lo))) w) : WL P n os (o :: l) K F w := by
 subst hms; subst hv; subst hv'
 have h0 := (Z.dup i hi' (fun _ _ h => Sh.dup h)).impl (fun o r h => Jc hlh hle h)
 have hk' := hk _ h0
 rw [List.length_drop, List.length_take, Nat.min_eq_left hle] at hk'
 obtain ⟨_, _, ⟨_, hc, _⟩, _, _⟩ := Z.get i hi'
 refine Zf2 hg (fun hok => ?_) hk'
 have e1 := Zc (F := F) hok (x := x) (by simp [ho, Op.operands])
 have e2 := Zc (F := F) hok (x := y) (by simp [ho, Op.operands])
 have e3 := Zc (F := F) hok (x := y') (by simp [ho, Op.operands])
 have hr := Zx (P := P) (w := w) (c := c) (a := a) hE (some (.int kk (lo : Int))) (some (.int kk' (hi : Int))) lo hi ls.length (Ja hlh (by omega))
 simp only [execOp, ho, e1, hx, Option.map_some, Option.map_none, e2, hy, e3, hy', Sem.run_bind, hr, Result.andThen_ok, Sem.run_pure]
theorem Zg3 {o : Oper} {t : TypeId} {x y : Operand} {kk : IntKind} {v : Int} (hg : o.guard = none) (ho : o.op = .slice t x none (some y) none) (i hi : Nat) (ms : List (List Value)) (hE : Elem P t e z size bytes) (Z : St g L w) (hi' : L[i]? = some (Ze e size ls a c)) (hx : ev F x = .slice a ls.length c) (hy : ev F y = .int kk v) (hv : v = hi) (hle : hi ≤ ls.length) (hms : ls.take hi = ms)
  (hk : St g (L.set i (Ze e size ms a c)) w → WL P n os l K (Zy F o.dst (.slice a ms.length c)) w) : WL P n os (o :: l) K F w := by
 subst hms; subst hv
 have h0 : St g (Ze e size (ls.take hi) a c :: L.eraseIdx i) w := (Z.at_ i hi').impl fun o r ⟨q1, q2⟩ => ⟨X4 q1, by
  rcases q2 with ⟨rfl, rfl, rfl⟩ | ⟨b, cur, rfl, s2, s3, s4, s5, s6⟩
  ·exact .inl ⟨rfl, rfl, by simp⟩
  ·refine .inr ⟨b, cur, rfl, s2, by simp; omega, s4, s5, ?_⟩
   have h5 : (ls.take hi).flatten = ls.flatten.take (hi * size) := by
    have h6 : ls.flatten = (ls.take hi).flatten ++ (ls.drop hi).flatten := by rw [← List.flatten_append, List.take_append_drop]
    rw [h6, List.take_left' (by rw [Zw _ _ (X4 q1).len]; simp [Nat.min_eq_left hle])]
   rw [h5, ← s6, List.take_take, List.length_take, Nat.min_eq_left hle, Nat.min_eq_left (Nat.mul_le_mul_right _ hle)]⟩
 have hk' := hk (h0.back i hi')
 rw [List.length_take, Nat.min_eq_left hle] at hk'
 have hc : ls.length ≤ c := by
  obtain ⟨_, _, ⟨_, hf⟩, _, _⟩ := Z.get i hi'
  rcases hf with ⟨_, _, rfl⟩ | ⟨_, _, _, _, h3, _⟩
  ·simp
  ·exact h3
 have hcut : Jw a c 0 size = a := by
  unfold Jw; split
  ·rfl
  ·cases a <;> simp [Addr.add]
 refine Zf2 hg (fun hok => ?_) hk'
 have e1 := Zc (F := F) hok (x := x) (by simp [ho, Op.operands])
 have e2 := Zc (F := F) hok (x := y) (by simp [ho, Op.operands])
 have hr := Zx (P := P) (w := w) (c := c) (a := a) hE none (some (.int kk (hi : Int))) 0 hi ls.length (Xy (by omega))
 simp only [execOp, ho, e1, hx, Option.map_some, Option.map_none, e2, hy, Sem.run_bind, hr, Result.andThen_ok, Sem.run_pure, Nat.sub_zero, hcut]
theorem Zga {o : Oper} {t : TypeId} {x y : Operand} {kk kk' : IntKind} {v v' : Int} (hg : o.guard = none) (ho : o.op = .makeSlice t x y) (m c : Nat) (hE : Elem P t e z size bytes) (Z : St g L w) (hx : ev F x = .int kk v) (hv : v = m) (hy : ev F y = .int kk' v') (hv' : v' = c) (hmc : m ≤ c) (hc : Rm c bytes)
  (hk : ∀ b w', St g (Ze e size (List.replicate m z.toList) (some ⟨b, 0, none⟩) c :: L) w' → WL P n os l K (Zy F o.dst (.slice (some ⟨b, 0, none⟩) m c)) w') : WL P n os (o :: l) K F w := by
 subst hv; subst hv'
 obtain ⟨i, zv, i1, i2, i3, i4, i5⟩ := hE.info
 have h63 : (c : Int) ≤ 9223372036854775807 := by have := hc.1; simp only [maxLen] at this; omega
 have hb : (i.bytes : Int) * (c : Int) ≤ 281474976710656 := by
  have := hc.2; rw [← i5, Nat.mul_comm] at this
  have h2 : ((i.bytes * c : Nat) : Int) ≤ 281474976710656 := by omega
  rwa [Int.natCast_mul] at h2
 have hr := run_make (P := P) w t e i zv hE.und i1 i2 kk kk' (m : Int) (c : Int) (by omega) (by omega) hb h63
 simp only [Int.toNat_natCast] at hr
 have hsz : (madeCells zv.cells (c * i.size)).size = c * size := by rw [size_madeCells, i4]
 have hS' := (Z.new (.cells (madeCells zv.cells (c * i.size)) e)).impl (B := Ze e size (List.replicate m z.toList) (some ⟨w.heap.size, 0, none⟩) c) fun o r hb =>
  ⟨fun x hx => by rw [List.eq_of_mem_replicate hx]; exact ⟨by simpa using hE.zsz, hE.one⟩, .inr ⟨_, _, rfl, hb, by simpa using hmc, hc.1, hsz, by
   apply List.ext_getElem?
   intro j
   simp only [List.length_replicate]
   rw [List.getElem?_take]
   by_cases hj : j < m * size
   ·rw [if_pos hj]
    have hjc : j < c * size := Nat.lt_of_lt_of_le hj (Nat.mul_le_mul_right _ hmc)
    have hd : j / size < m := Nat.div_lt_of_lt_mul (by rw [Nat.mul_comm]; exact hj)
    have hmod : j % size < size := Nat.mod_lt _ hE.pos
    have h6 := Xi (List.replicate m z.toList) size (fun x hx => by rw [List.eq_of_mem_replicate hx]; simpa using hE.zsz) (j / size) z.toList (j % size) (by simp [hd]) (by simpa [hE.zsz] using hmod)
    rw [Nat.mul_comm, Nat.div_add_mod] at h6
    rw [h6]
    have hz : j % size < z.size := by rw [hE.zsz]; exact hmod
    simp [madeCells, i3, i4, hjc, hE.zsz]
    rw [getElem!_pos z _ hz, Array.getElem?_eq_getElem hz]
   ·rw [if_neg hj]
    symm
    rw [List.getElem?_eq_none]
    rw [Zw _ size (fun x hx => by rw [List.eq_of_mem_replicate hx]; simpa using hE.zsz)]
    simp; omega⟩⟩
 refine Zf2 hg (fun hok => ?_) (hk w.heap.size _ hS')
 have e1 := Zc (F := F) hok (x := x) (by simp [ho, Op.operands])
 have e2 := Zc (F := F) hok (x := y) (by simp [ho, Op.operands])
 simp only [execOp, ho, e1, hx, e2, hy, Sem.run_bind, hr, Result.andThen_ok, Sem.run_pure]
def Za (l : List Int) : List (List Value) := l.map fun x => [.int .u8 x]
@[simp] theorem Zf (l : List Int) : (Za l).length = l.length := by simp [Za]
theorem ZA {l : List Int} {k : Nat} {x : Int} (h : l[k]? = some x) : (Za l)[k]? = some [.int .u8 x] := by simp [Za, h]
theorem Z0 (l m : List Int) : Za (l ++ m) = Za l ++ Za m := by simp [Za]
theorem Uo (l : List Int) (k : Nat) : (Za l).drop k = Za (l.drop k) := by simp [Za]
theorem UV (l : List Int) (k : Nat) : (Za l).take k = Za (l.take k) := by simp [Za]
theorem Yj (l : List Int) : OkE 1 (Za l) := fun x hx => by
 obtain ⟨y, _, rfl⟩ := List.mem_map.1 hx
 exact ⟨rfl, fun u hu => by simp at hu; subst hu; rfl⟩
def sb (s : ByteArray) : List Int := s.data.toList.map fun b => (b.toNat : Int)
def Y_ (l : List Int) : ByteArray := ⟨(l.map fun x => UInt8.ofNat x.toNat).toArray⟩
def B8 (l : List Int) : Prop := ∀ x ∈ l, 0 ≤ x ∧ x ≤ 255
theorem CN {l : List Int} (h : B8 l) : sb (Y_ l) = l := by
 simp only [sb, Y_, List.map_map]
 conv => rhs; rw [← List.map_id l]
 refine List.map_congr_left fun x hx => ?_
 have := h x hx
 simp only [Function.comp, id, UInt8.toNat_ofNat']
 rw [show x.toNat % 2 ^ 8 = x.toNat from Nat.mod_eq_of_lt (by omega)]
 omega
theorem Zg7 {o : Oper} {t : TypeId} {x y : Operand} {s : ByteArray} {kk : IntKind} {v : Int} (hg : o.guard = none) (ho : o.op = .index t x y) (k : Nat) {b : Int} (hT : mem T.strs t = true) (hx : ev F x = .string s) (hy : ev F y = .int kk v) (hv : v = k) (hb : (sb s)[k]? = some b)
  (hk : WL P n os l K (Zy F o.dst (.int .u8 b)) w) : WL P n os (o :: l) K F w := by
 subst hv
 have hu : P.underlying t = some .string := Tab.str hT
 refine Zf2 hg (fun hok => ?_) hk
 have e1 := Zc (F := F) hok (x := x) (by simp [ho, Op.operands])
 have e2 := Zc (F := F) hok (x := y) (by simp [ho, Op.operands])
 simp only [sb, List.getElem?_map] at hb
 cases hq : s.data.toList[k]? with
 | none => simp [hq] at hb
 | some c =>
  simp only [hq, Option.map_some, Option.some.injEq] at hb
  have hs : s[k]? = some c := by
   have hlt := (List.getElem?_eq_some_iff.1 hq).1
   have hlt2 : k < s.size := by simpa using hlt
   have h3 : s[k] = c := (List.getElem?_eq_some_iff.1 hq).2
   rw [getElem?_pos s k hlt2, h3]
  subst hb
  simp [execOp, ho, e1, hx, e2, hy, Instr.index, asIntOf, run_underlying hu, hs]
theorem Zgr {o : Oper} {sT dT e : TypeId} {x : Operand} {a : Option Addr} {c : Nat} {bs : List Int} (hg : o.guard = none) (ho : o.op = .convert sT dT x) (hs : P.underlying sT = some (.slice e)) (hd : P.underlying dT = some .string) (he : P.underlying e = some (.int .u8)) (hsrc : Src w 1 (Za bs) a) (hb : B8 bs) (hx : ev F x = .slice a bs.length c)
  (hk : WL P n os l K (Zy F o.dst (.string (Y_ bs))) w) : WL P n os (o :: l) K F w := by
 refine Zf2 hg (fun hok => ?_) hk
 have e1 := Zc (F := F) hok (x := x) (by simp [ho, Op.operands])
 have hr : (convert sT dT (.slice a bs.length c)).run P w = .ok (.string (Y_ bs)) w := by
  by_cases h0 : bs = []
  ·subst h0
   cases a with
   | none => rw [run_convert_bytes_string w sT dT e none _ c hs he hd]; simp [Conv.bytesToString, Y_]; rfl
   | some ad =>
    have := run_convert_bytes_back (P := P) w sT dT e ad c [] hs he hd (fun j hj => by simp at hj)
    simpa [Y_] using this
  ·obtain ⟨⟨b, off, rfl⟩, hc⟩ := hsrc.rd (by rw [Zf]; exact List.length_pos_iff.2 h0)
   have hlen : (bs.map fun x => UInt8.ofNat x.toNat).length = bs.length := by simp
   have := run_convert_bytes_back (P := P) w sT dT e ⟨b, off, none⟩ c (bs.map fun x => UInt8.ofNat x.toNat) hs he hd (fun j hj => by
    have hj' : j < bs.length := by simpa using hj
    rw [show (⟨b, off, none⟩ : Addr).add j = ⟨b, off + j, none⟩ by unfold Addr.add; split <;> simp_all]
    have h5 := Xi (Za bs) 1 (Yj _).len j [.int .u8 bs[j]] 0 (ZA (List.getElem?_eq_getElem hj')) (by simp)
    simp only [Nat.mul_one, Nat.add_zero] at h5
    have h6 := hc j (.int .u8 bs[j]) (by rw [h5]; rfl)
    rw [show bo (some ⟨b, off, none⟩) = b from rfl, show oo (some ⟨b, off, none⟩) = off from rfl] at h6
    rw [h6]
    have h7 := hb bs[j] (List.getElem_mem hj')
    congr 2
    simp only [List.getElem_map, UInt8.toNat_ofNat']
    rw [show bs[j].toNat % 2 ^ 8 = bs[j].toNat from Nat.mod_eq_of_lt (by omega)]
    omega)
   rw [hlen] at this
   exact this
 simp only [execOp, ho, e1, hx, Sem.run_bind, hr, Result.andThen_ok, Sem.run_pure]
end
end Go.V
namespace Go.V
open Go
theorem ZD (m : Nat) {a : Int} (h0 : 0 ≤ a) (h1 : a < 2 ^ m) : (BitVec.ofInt m a).toNat = a.toNat := by
 obtain ⟨n, rfl⟩ := Int.eq_ofNat_of_zero_le h0
 rw [BitVec.ofInt_natCast, BitVec.toNat_ofNat]
 exact Nat.mod_eq_of_lt (by exact_mod_cast h1)
theorem CO {k : IntKind} {a b : Int} (a0 : 0 ≤ a) (a1 : a < 2 ^ k.bits) (b0 : 0 ≤ b) (b1 : b < 2 ^ k.bits) : JB .and k a b = k.wrap ((a.toNat &&& b.toNat : Nat) : Int) := by
 simp only [JB, BitVec.toNat_and, ZD _ a0 a1, ZD _ b0 b1]
theorem HU {k : IntKind} {a b : Int} (a0 : 0 ≤ a) (a1 : a < 2 ^ k.bits) (b0 : 0 ≤ b) (b1 : b < 2 ^ k.bits) : JB .or k a b = k.wrap ((a.toNat ||| b.toNat : Nat) : Int) := by
 simp only [JB, BitVec.toNat_or, ZD _ a0 a1, ZD _ b0 b1]
theorem Hr {k : IntKind} {a b : Int} (a0 : 0 ≤ a) (a1 : a < 2 ^ k.bits) (b0 : 0 ≤ b) (b1 : b < 2 ^ k.bits) : JB .xor k a b = k.wrap ((a.toNat ^^^ b.toNat : Nat) : Int) := by
 simp only [JB, BitVec.toNat_xor, ZD _ a0 a1, ZD _ b0 b1]
theorem p2_63 : p2 .i64 63 = 9223372036854775808 := by decide
theorem p2_1 : p2 .u64 1 = 2 := by decide
theorem Zcy {c : Int} (h0 : 0 ≤ c) (h1 : c ≤ 255) : JB .and .u8 c 127 = c % 128 := by
 rw [CO h0 (by simp [IntKind.bits]; omega) (by omega) (by simp [IntKind.bits])]
 have h2 : c.toNat &&& (127 : Int).toNat = c.toNat % 128 := Nat.and_two_pow_sub_one_eq_mod c.toNat 7
 rw [h2, wu8 (by omega)]
 omega
theorem or128 (c : Int) : JB .or .u8 (IntKind.u8.wrap c) 128 = c % 128 + 128 := by
 have hw : IntKind.u8.wrap c = c % 256 := by unfold IntKind.wrap; simp [IntKind.bits, IntKind.signed]
 rw [hw, HU (by omega) (by simp [IntKind.bits]; omega) (by omega) (by simp [IntKind.bits])]
 have h3 : (c % 256).toNat ||| (128 : Int).toNat = (c % 128).toNat + 128 := by
  have h4 : (c % 256).toNat = 128 * ((c % 256).toNat / 128) + (c % 256).toNat % 128 := (Nat.div_add_mod _ _).symm
  have h5 : (c % 256).toNat % 128 = (c % 128).toNat := by omega
  have h6 : (c % 256).toNat / 128 = 0 ∨ (c % 256).toNat / 128 = 1 := by omega
  have h7 : (128 : Int).toNat = 2 ^ 7 * 1 := rfl
  have h8 : (c % 128).toNat < 2 ^ 7 := by omega
  have h9 := Nat.two_pow_add_eq_or_of_lt h8 1
  rw [h4, h5, h7]
  rcases h6 with h6 | h6
  ·rw [h6, Nat.mul_zero, Nat.zero_add, Nat.or_comm, ← h9]; omega
  ·rw [h6]
   have h10 : 128 * 1 + (c % 128).toNat = 2 ^ 7 * 1 + (c % 128).toNat := rfl
   rw [h10, h9, Nat.or_assoc, Nat.or_comm (c % 128).toNat, ← Nat.or_assoc, Nat.or_self, ← h9]; omega
 rw [h3, wu8 (by omega)]
 omega
theorem VW {c : Int} (h0 : 0 ≤ c) (h1 : c < 128) : IntKind.u8.wrap c = c := wu8 (by omega)
theorem Ui {u x : Int} {m : Nat} (hu0 : 0 ≤ u) (hu : u < 2 ^ m) (hx : 0 ≤ x) (hs : u + x * 2 ^ m < 2 ^ 64) : JB .or .u64 u (x * 2 ^ m) = u + x * 2 ^ m := by
 have hp : (0 : Int) < 2 ^ m := Int.pow_pos (by decide)
 have hxm : 0 ≤ x * 2 ^ m := Int.mul_nonneg hx (Int.le_of_lt hp)
 rw [HU hu0 (by simp [IntKind.bits]; omega) hxm (by simp [IntKind.bits]; omega)]
 obtain ⟨a, rfl⟩ := Int.eq_ofNat_of_zero_le hu0
 obtain ⟨b, rfl⟩ := Int.eq_ofNat_of_zero_le hx
 have h1 : ((b : Int) * 2 ^ m).toNat = 2 ^ m * b := by
  have : ((b : Int) * 2 ^ m) = ((2 ^ m * b : Nat) : Int) := by push_cast; rw [Int.mul_comm]
  rw [this, Int.toNat_natCast]
 have h2 : a < 2 ^ m := by exact_mod_cast hu
 rw [h1, Int.toNat_natCast, Nat.or_comm, ← Nat.two_pow_add_eq_or_of_lt h2 b]
 have h3 : ((2 ^ m * b + a : Nat) : Int) = (a : Int) + (b : Int) * 2 ^ m := by push_cast; rw [Int.mul_comm, Int.add_comm]
 rw [h3, Ye ⟨by omega, by omega⟩]
section
variable {P : Program} {T : Tab} [hT : TabOk P T] {n : Nat} {os l : List Oper} {K : Kt} {F : Fm} {w : World}
theorem Zg4 {o : Oper} {t yt : TypeId} {x y : Operand} {k kk : IntKind} {p b : Int} (hg : o.guard = none) (ho : o.op = .binOp .shl t x y yt) (m : Nat) (hx : ev F x = .int k p) (hy : ev F y = .int kk b) (hb : b = m) (hk : WL P n os l K (Zy F o.dst (.int k (k.wrap (p * p2 k m)))) w) : WL P n os (o :: l) K F w := by
 subst hb
 refine Zf2 hg (fun hok => ?_) hk
 have e1 := Zc (F := F) hok (x := x) (by simp [ho, Op.operands])
 have e2 := Zc (F := F) hok (x := y) (by simp [ho, Op.operands])
 have hr := HY (P := P) (k := k) (k' := kk) (a := p) (b := (m : Int)) t (op := .shl) rfl rfl w
 simp only [execOp, ho, e1, e2, hx, hy, eqGuard, Sem.run_bind, Sem.run_pure]
 simp [hr]
end
theorem Zd7 {k n : Int} (hn : 0 < n) (h : k.tmod n < 0) : k.tmod n + n = k % n := by
 have h1 := Int.emod_nonneg k (show n ≠ 0 by omega)
 rw [Int.tmod_eq_emod] at h ⊢
 split at h
 ·omega
 ·rename_i h2; rw [if_neg h2]; omega
theorem Zds {k n : Int} (hn : 0 < n) (h : ¬ k.tmod n < 0) : k.tmod n = k % n := by
 have h1 := Int.emod_lt_of_pos k hn
 rw [Int.tmod_eq_emod] at h ⊢
 split at h
 ·rename_i h2; rw [if_pos h2]; omega
 ·omega
theorem tm_lt {k n : Int} (hn : 0 < n) : -n < k.tmod n ∧ k.tmod n < n := ⟨by
 have h1 := Int.emod_nonneg k (show n ≠ 0 by omega)
 rw [Int.tmod_eq_emod]
 split <;> omega, Int.tmod_lt_of_pos k hn⟩
def zz (n : Int) : Int := if 0 ≤ n then 2 * n else -2 * n - 1
def uz (u : Int) : Int := if u % 2 = 0 then u / 2 else -(u / 2) - 1
theorem uz_zz (n : Int) : uz (zz n) = n := by unfold uz zz; split <;> split <;> omega
theorem Zbz {n : Int} (h : -9223372036854775808 ≤ n ∧ n ≤ 9223372036854775807) : 0 ≤ zz n ∧ zz n ≤ 18446744073709551615 := by unfold zz; split <;> omega
theorem Qc (z : Int) : IntKind.u64.wrap z = z % 18446744073709551616 := by unfold IntKind.wrap; simp [IntKind.bits, IntKind.signed]
theorem UE (a : Nat) (h : a < 2 ^ 64) : a ^^^ (2 ^ 64 - 1) = 2 ^ 64 - 1 - a := by
 have h2 := congrArg BitVec.toNat (BitVec.xor_allOnes (x := BitVec.ofNat 64 a))
 simp only [BitVec.toNat_xor, BitVec.toNat_allOnes, BitVec.toNat_not, BitVec.toNat_ofNat, Nat.mod_eq_of_lt h] at h2
 exact h2
theorem Za6 {n : Int} (h : -9223372036854775808 ≤ n ∧ n ≤ 9223372036854775807) :
  JB .xor .u64 (IntKind.u64.wrap (IntKind.u64.wrap n * p2 .u64 1)) (IntKind.u64.wrap (n / p2 .i64 63)) = zz n := by
 rw [p2_63, p2_1]
 unfold zz
 split
 ·rename_i h0
  have e1 : n / 9223372036854775808 = 0 := by omega
  rw [e1, Ye (z := n) (by omega), Ye (z := n * 2) (by omega), Ye (z := 0) (by omega), Hr (by omega) (by simp [IntKind.bits]; omega) (by omega) (by simp [IntKind.bits])]
  rw [show (0 : Int).toNat = 0 from rfl, Nat.xor_zero, Ye (by omega)]; omega
 ·rename_i h0
  have e1 : n / 9223372036854775808 = -1 := by omega
  have e2 : IntKind.u64.wrap n = n + 18446744073709551616 := by rw [Qc]; omega
  have e3 : IntKind.u64.wrap ((n + 18446744073709551616) * 2) = 2 * n + 18446744073709551616 := by rw [Qc]; omega
  have e4 : IntKind.u64.wrap (-1) = 18446744073709551615 := by rw [Qc]; rfl
  rw [e1, e2, e3, e4, Hr (by omega) (by simp [IntKind.bits]; omega) (by omega) (by simp [IntKind.bits])]
  have e5 : (18446744073709551615 : Int).toNat = 2 ^ 64 - 1 := by rfl
  rw [e5, UE _ (by omega), Ye (by omega)]
  omega
theorem and1 {u : Int} (h : 0 ≤ u ∧ u ≤ 18446744073709551615) : JB .and .u64 u 1 = u % 2 := by
 rw [CO (by omega) (by simp [IntKind.bits]; omega) (by omega) (by simp [IntKind.bits])]
 have h2 : u.toNat &&& (1 : Int).toNat = u.toNat % 2 := Nat.and_two_pow_sub_one_eq_mod u.toNat 1
 rw [h2, Ye (by omega)]; omega
theorem DS {a : Int} (h : 0 ≤ a ∧ a ≤ 9223372036854775807) : JB .xor .i64 a 0 = a := by
 rw [Hr (by omega) (by simp [IntKind.bits]; omega) (by omega) (by simp [IntKind.bits])]
 rw [show (0 : Int).toNat = 0 from rfl, Nat.xor_zero, ZF (by omega)]; omega
theorem DV {a : Int} (h : 0 ≤ a ∧ a ≤ 9223372036854775807) : JB .xor .i64 a (-1) = -a - 1 := by
 have e : (BitVec.ofInt 64 (-1)).toNat = 2 ^ 64 - 1 := by decide
 show IntKind.i64.wrap ((BitVec.ofInt 64 a ^^^ BitVec.ofInt 64 (-1)).toNat : Int) = _
 rw [BitVec.toNat_xor, ZD 64 h.1 (by omega), e, UE _ (by omega), IntKind.wrap_i64]
 omega
theorem VX {u : Int} (h : 0 ≤ u ∧ u ≤ 18446744073709551615) : JB .xor .i64 (u / 2) (0 - u % 2) = uz u := by
 unfold uz
 split
 ·rename_i h0; rw [h0, show (0 : Int) - 0 = 0 from rfl, DS (by omega)]
 ·rename_i h0
  have : u % 2 = 1 := by omega
  rw [this, show (0 : Int) - 1 = -1 from rfl, DV (by omega)]
end Go.V
namespace Go.V
open Go Go.RowKit
section
variable {P : Program} {T : Tab} [hT : TabOk P T] {n : Nat} {os l : List Oper} {K : Kt} {F : Fm} {w g : World} {L : List HP} {e size bytes c : Nat} {z : Array Value} {ls ms : List (List Value)} {a : Option Addr}
theorem St.setObj {b : Nat} {ob ob' : Obj} (h : St g (ZN b ob :: L) w) : St g (ZN b ob' :: L) { w with heap := w.heap.setIfInBounds b ob' } := by
 refine h.upd rfl rfl rfl (by simp) fun o1 r hA hw _ _ => ⟨fun k => if k = b then some ob' else none, by simp [ZN], fun k x hx => ?_, fun k hk => ?_, fun k hk hn => ?_⟩
 ·simp only at hx
  split at hx
  ·rename_i hk; subst hk
   simp only [Option.some.injEq] at hx; subst hx
   have h1 := hw _ _ hA
   have h2 : k < w.heap.size := (Array.getElem?_eq_some_iff.1 h1).1
   simp [h2]
  ·cases hx
 ·simp only [ne_eq, ite_eq_right_iff, reduceCtorEq, imp_false, Classical.not_not] at hk
  subst hk
  exact .inl (by rw [show o1 k = some ob from hA]; simp)
 ·have : b ≠ k := fun e => by
   have : o1 k = some ob := by rw [← e]; exact hA
   rw [hn] at this; cases this
  exact Array.getElem?_setIfInBounds_ne this
def nx (l : List Int) (k : Nat) : Value := if k < l.length then .tuple #[.bool true, .int .i64 k, .int .i32 (l.getD k 0)] else .tuple #[.bool false]
theorem Zcc {l : List Int} {k : Nat} (h : k < l.length) : nx l k = .tuple #[.bool true, .int .i64 k, .int .i32 (l.getD k 0)] := if_pos h
theorem nx_0 (l : List Int) (k : Nat) : ∃ vs, nx l k = .tuple vs ∧ vs[0]? = some (.bool (decide (k < l.length))) := by
 unfold nx; split <;> rename_i h <;> exact ⟨_, rfl, by simp [h]⟩
def As7 (l : List Int) : Prop := ∀ x ∈ l, 0 ≤ x ∧ x < 128
theorem UA (l : List Int) : (Y_ l).size = l.length := by simp [Y_, ByteArray.size]
theorem Zgs {o : Oper} {t : TypeId} {x : Operand} {s : ByteArray} (hg : o.guard = none) (ho : o.op = .range t x) (hT : mem T.strs t = true) (Z : St g L w) (hx : ev F x = .string s)
  (hk : ∀ b w', St g (ZN b (.stringIter s 0) :: L) w' → WL P n os l K (Zy F o.dst (.pointer (some ⟨b, 0, none⟩))) w') : WL P n os (o :: l) K F w := by
 have hu : P.underlying t = some .string := Tab.str hT
 refine Zf2 hg (fun hok => ?_) (hk w.heap.size (w.alloc (.stringIter s 0)) (Z.new _))
 have e := Zc (F := F) hok (x := x) (by simp [ho, Op.operands])
 simp only [execOp, ho, e, hx, Sem.run_bind, run_range_string w t s hu, Result.andThen_ok, Sem.run_pure]
 rfl
theorem Zda {l : List Int} (hl : As7 l) {k : Nat} (h : k < l.length) (hv : k < (Y_ l).size) : ((Y_ l)[k]'hv).toNat = (l.getD k 0).toNat ∧ ((Y_ l)[k]'hv).toNat < 128 := by
 have h1 : (Y_ l)[k]'hv = UInt8.ofNat (l[k]).toNat := by
  show (Y_ l).data[k]'hv = _
  simp [Y_]
 have h2 := hl _ (List.getElem_mem h)
 have h3 : (UInt8.ofNat (l[k]).toNat).toNat = (l[k]).toNat := by
  rw [UInt8.toNat_ofNat']
  exact Nat.mod_eq_of_lt (by omega)
 rw [h1, h3, List.getD_eq_getElem?_getD, List.getElem?_eq_getElem h]
 exact ⟨rfl, by omega⟩
theorem Zgt {o o2 : Oper} {it y : Operand} {d d2 b k : Nat} {xs : List Int} (hg : o.guard = none) (ho : o.op = .next it true) (hd : o.dst = some d) (hg2 : o2.guard = none) (ho2 : o2.op = .extract y 0) (hy : y = .tmp d) (hd2 : o2.dst = some d2)
  (i : Nat) (hl : As7 xs) (Z : St g L w) (hi : L[i]? = some (ZN b (.stringIter (Y_ xs) k))) (hx : ev F it = .pointer (some ⟨b, 0, none⟩))
  (hk : ∀ w', St g (L.set i (ZN b (.stringIter (Y_ xs) (if k < xs.length then k + 1 else k)))) w' → WL P n os l K (upd (upd F d (Go.V.nx xs k)) d2 (.bool (decide (k < xs.length)))) w') : WL P n os (o :: o2 :: l) K F w := by
 have hh := Z.heap i hi
 have key : ∃ w', ((Instr.next (.pointer (some ⟨b, 0, none⟩)) true o.type).run P w) = .ok (Go.V.nx xs k) w' ∧ St g (L.set i (ZN b (.stringIter (Y_ xs) (if k < xs.length then k + 1 else k)))) w' := by
  by_cases hlt : k < xs.length
  ·have h1 : k < (Y_ xs).size := by rw [UA]; exact hlt
   obtain ⟨h2, h3⟩ := Zda hl hlt h1
   have h0 : 0 ≤ xs.getD k 0 := by
    rw [List.getD_eq_getElem?_getD, List.getElem?_eq_getElem hlt]; exact (hl _ (List.getElem_mem hlt)).1
   refine ⟨{ w with heap := w.heap.setIfInBounds b (.stringIter (Y_ xs) (k + 1)) }, ?_, ?_⟩
   ·simp only [Instr.next, Sem.run_bind, getObj, Go.setObj, Sem.run, hh, Result.andThen_ok, h1, if_true, decode_ascii _ _ h1 h3]
    simp only [Zcc hlt, goInt, h2, Int.toNat_of_nonneg h0]
    rfl
   ·rw [if_pos hlt]; exact (St.setObj (Z.at_ i hi)).back i hi
  ·have h1 : ¬ k < (Y_ xs).size := by rw [UA]; exact hlt
   refine ⟨w, ?_, ?_⟩
   ·simp only [Instr.next, Sem.run_bind, getObj, Sem.run, hh, Result.andThen_ok, h1, if_false, Go.V.nx, hlt]
    rfl
   ·rw [if_neg hlt]
    have : L.set i (ZN b (.stringIter (Y_ xs) k)) = L := by
     obtain ⟨q1, q2⟩ := List.getElem?_eq_some_iff.1 hi
     rw [← q2]; exact List.set_getElem_self _
    rw [this]; exact Z
 obtain ⟨w', hr, hS'⟩ := key
 refine Zf2 (v := Go.V.nx xs k) (w' := w') hg (fun hok => ?_) ?_
 ·have e := Zc (F := F) hok (x := it) (by simp [ho, Op.operands])
  simp only [execOp, ho, e, hx, Sem.run_bind, hr, Result.andThen_ok, Sem.run_pure]
 ·rw [hd]
  refine Zf2 (v := .bool (decide (k < xs.length))) (w' := w') hg2 (fun hok => ?_) (by rw [hd2]; exact hk w' hS')
  have e := Zc (F := upd F d (Go.V.nx xs k)) hok (x := y) (by simp [ho2, Op.operands])
  obtain ⟨vs, q1, q2⟩ := nx_0 xs k
  have e2 : ev (upd F d (Go.V.nx xs k)) y = Go.V.nx xs k := by rw [hy]; simp [ev, upd]
  have e3 := (e.trans e2).trans q1
  simp only [execOp, ho2, Zy, e3]
  simp [Instr.extract, q2]
theorem Um : ∀ (ls : List (List Value)) (size : Nat), (∀ x ∈ ls, x.length = size) → ∀ (k : Nat) (cs : List Value) (j : Nat) (v : Value), ls[k]? = some cs → j < cs.length → (ls.set k (cs.set j v)).flatten = ls.flatten.set (k * size + j) v
 | [], _, _, k, cs, j, v, hk, _ => by simp at hk
 | x :: xs, size, h, 0, cs, j, v, hk, hj => by
  simp only [List.getElem?_cons_zero, Option.some.injEq] at hk; subst hk
  simp [List.set_append_left _ _ hj]
 | x :: xs, size, h, k + 1, cs, j, v, hk, hj => by
  have h1 := h x (List.mem_cons_self ..)
  simp only [List.getElem?_cons_succ] at hk
  have := Um xs size (fun y hy => h y (List.mem_cons_of_mem _ hy)) k cs j v hk hj
  simp only [List.set_cons_succ, List.flatten_cons, this]
  rw [List.set_append_right _ _ (by rw [h1, Nat.succ_mul]; omega)]
  congr 2
  rw [h1, Nat.succ_mul]; omega
theorem St.setE {k j : Nat} {cs : List Value} {v : Value} (h : St g (Ze e size ls a c :: L) w) (hk : ls[k]? = some cs) (hj : j < cs.length) (hv : v.oneCell' = true) :
  St g (Ze e size (ls.set k (cs.set j v)) a c :: L) (w.setCell ⟨bo a, oo a + k * size + j, none⟩ v) := by
 refine h.upd rfl rfl rfl (by simp [World.setCell]) fun o1 r hA hw _ _ => ?_
 obtain ⟨hok, hA⟩ := hA
 have hkl : k < ls.length := (List.getElem?_eq_some_iff.1 hk).1
 rcases hA with ⟨_, _, h3⟩ | ⟨b, cur, rfl, h2, h3, h4, h5, h6⟩
 ·subst h3; simp at hkl
 ·have hok' : OkE size (ls.set k (cs.set j v)) := fun x hx => by
   rcases List.mem_or_eq_of_mem_set hx with hx | rfl
   ·exact hok x hx
   ·have := hok cs (List.mem_of_getElem? hk)
    refine ⟨by simpa using this.1, fun u hu => ?_⟩
    rcases List.mem_or_eq_of_mem_set hu with hu | rfl
    ·exact this.2 u hu
    ·exact hv
  refine ⟨fun q => if q = b then some (.cells (cur.setIfInBounds (k * size + j) v) e (0, 0)) else none, ⟨hok', .inr ⟨b, cur.setIfInBounds (k * size + j) v, rfl, by simp, by simpa using h3, h4, by simpa using h5, ?_⟩⟩, fun q x hx => ?_, fun q hq => ?_, fun q hq hn => ?_⟩
  ·rw [List.length_set, Array.toList_setIfInBounds, List.take_set, h6, Um ls size hok.len k cs j v hk hj]
  ·simp only at hx
   split at hx
   ·rename_i hq; subst hq; simp only [Option.some.injEq] at hx; subst hx
    have := heap_setCell_same w q (k * size + j) cur e v (hw _ _ h2)
    simpa [bo, oo] using this
   ·cases hx
  ·simp only [ne_eq, ite_eq_right_iff, reduceCtorEq, imp_false, Classical.not_not] at hq
   subst hq
   exact .inl (by rw [h2]; simp)
  ·refine Below.heap_setCell w _ v q fun eq => ?_
   have : o1 q = some (.cells cur e (0, 0)) := by rw [eq]; exact h2
   rw [hn] at this; cases this
theorem St.ownRow {k : Nat} {cs : List Value} (h : St g L w) (i : Nat) (hi : L[i]? = some (Ze e size ls a c)) (hk : ls[k]? = some cs) : ∃ b cur, a = some ⟨b, 0, none⟩ ∧ w.heap[b]? = some (.cells cur e (0, 0)) ∧ ∀ j, j < cs.length → (k * size + j) < cur.size := by
 obtain ⟨o1, r, hA, ho, hr⟩ := h.get i hi
 obtain ⟨hok, hA⟩ := hA
 have hkl : k < ls.length := (List.getElem?_eq_some_iff.1 hk).1
 rcases hA with ⟨_, _, h3⟩ | ⟨b, cur, rfl, h2, h3, h4, h5, h6⟩
 ·subst h3; simp at hkl
 ·refine ⟨b, cur, rfl, ho _ _ h2, fun j hj => ?_⟩
  have := (hok cs (List.mem_of_getElem? hk)).1
  rw [h5]
  calc k * size + j < k * size + size := by omega
   _ = (k + 1) * size := by rw [Nat.succ_mul]
   _ ≤ c * size := Nat.mul_le_mul_right _ (by omega)
theorem Zgk {o : Oper} {t : TypeId} {x y : Operand} {v : Value} (hg : o.guard = none) (hd : o.dst = none) (ho : o.op = .store t x y) (i k j : Nat) (cs : List Value) (ls' : List (List Value)) (Z : St g L w) (hi : L[i]? = some (Ze e size ls a c)) (hks : ls[k]? = some cs) (hx : ev F x = .pointer (some ⟨bo a, oo a + k * size + j, none⟩)) (hv : ev F y = v)
  (h1 : v.oneCell' = true) (hj : Nat.blt j cs.length = true) (ht : mem T.ones t = true) (hls : ls.set k (cs.set j v) = ls') (hk : ∀ w', St g (L.set i (Ze e size ls' a c)) w' → WL P n os l K F w') : WL P n os (o :: l) K F w := by
 subst hls
 have hj := YL.1 hj
 have hcs : v.cells = #[v] := by cases v <;> simp [Value.oneCell'] at h1 <;> rfl
 obtain ⟨b, cur, rfl, hh, hlt⟩ := Z.ownRow i hi hks
 have hS' := ((Z.at_ i hi).setE hks hj h1).back i hi
 refine Zgj hg hd (fun hok => ?_) (hk _ hS')
 have e1 := Zc (F := F) hok (x := x) (by simp [ho, Op.operands])
 have e2 := Zc (F := F) hok (x := y) (by simp [ho, Op.operands])
 obtain ⟨_, _, h3⟩ := Tab.one (P := P) ht
 have h4 := hlt j hj
 simp only [bo, oo, Nat.zero_add] at hx ⊢
 have hcell : w.cell? ⟨b, k * size + j, none⟩ = some cur[k * size + j] := by rw [cell_of_row w b _ cur e (0, 0) hh]; simp [h4]
 have hst : (storeVar t ⟨b, k * size + j, none⟩ v).run P w = .ok () (w.setCell ⟨b, k * size + j, none⟩ v) := by
  simp only [storeVar, Sem.run_bind, ZI w h3, Result.andThen_ok, hcs, storeCells]
  simp [Addr.add, run_store _ _ _ _ _ h1, hcell, JL hh]
 simp only [execOp, ho, e1, e2, hx, hv, Instr.storeAt, Instr.sureAddr, Sem.run_bind, Sem.run_pure, Result.andThen_ok, hst]
end
theorem Zbt {p q : Int} (h : 0 ≤ p ∧ 0 ≤ p / q ∧ p / q ≤ 18446744073709551615) : IntKind.u64.wrap (p.tdiv q) = p / q := by rw [Int.tdiv_eq_ediv_of_nonneg h.1, Ye (by omega)]
def Zo (l : List (Int × Int)) : List (List Value) := l.map fun x => [.int .i64 x.1, .int .i64 x.2]
@[simp] theorem Z_ (l : List (Int × Int)) : (Zo l).length = l.length := by simp [Zo]
theorem ZW {l : List (Int × Int)} {k : Nat} {x : (Int × Int)} (h : l[k]? = some x) : (Zo l)[k]? = some [.int .i64 x.1, .int .i64 x.2] := by simp [Zo, h]
theorem Zaf (l m : List (Int × Int)) : Zo (l ++ m) = Zo l ++ Zo m := by simp [Zo]
theorem Zdw (l : List (Int × Int)) : OkE 2 (Zo l) := fun x hx => by
 obtain ⟨y, _, rfl⟩ := List.mem_map.1 hx
 exact ⟨rfl, fun u hu => by simp at hu; rcases hu with rfl | rfl <;> rfl⟩
def Zn (l : List (Int × Int × Int × Int)) : List (List Value) := l.map fun x => [.int .i64 x.1, .int .i64 x.2.1, .int .i64 x.2.2.1, .int .i64 x.2.2.2]
@[simp] theorem Z9 (l : List (Int × Int × Int × Int)) : (Zn l).length = l.length := by simp [Zn]
theorem Zp {l : List (Int × Int × Int × Int)} {k : Nat} {x : (Int × Int × Int × Int)} (h : l[k]? = some x) : (Zn l)[k]? = some [.int .i64 x.1, .int .i64 x.2.1, .int .i64 x.2.2.1, .int .i64 x.2.2.2] := by simp [Zn, h]
theorem Zbl (l m : List (Int × Int × Int × Int)) : Zn (l ++ m) = Zn l ++ Zn m := by simp [Zn]
theorem Zd6 (l : List (Int × Int × Int × Int)) : OkE 4 (Zn l) := fun x hx => by
 obtain ⟨y, _, rfl⟩ := List.mem_map.1 hx
 exact ⟨rfl, fun u hu => by simp at hu; rcases hu with rfl | rfl | rfl | rfl <;> rfl⟩
def Zb (l : List Int) : List (List Value) := l.map fun x => [.int .i64 x]
@[simp] theorem Zh (l : List Int) : (Zb l).length = l.length := by simp [Zb]
theorem Zg {l : List Int} {k : Nat} {x : Int} (h : l[k]? = some x) : (Zb l)[k]? = some [.int .i64 x] := by simp [Zb, h]
theorem JT (l m : List Int) : Zb (l ++ m) = Zb l ++ Zb m := by simp [Zb]
theorem Dr (l : List Int) (k : Nat) : (Zb l).take k = Zb (l.take k) := by simp [Zb]
theorem C1 (l : List Int) (k : Nat) (x : Int) : (Zb l).set k [.int .i64 x] = Zb (l.set k x) := by simp [Zb, List.map_set]
theorem XW (l : List Int) : OkE 1 (Zb l) := fun x hx => by
 obtain ⟨y, _, rfl⟩ := List.mem_map.1 hx
 exact ⟨rfl, fun u hu => by simp at hu; rcases hu with rfl <;> rfl⟩
end Go.V
namespace Go.V
open Go Go.RowKit
inductive FK where
 | int (k : IntKind)
 | bool
 | string
 | no
deriving DecidableEq
def UO (P : Program) (ty : TypeId) : FK := match P.underlying ty with
 | some (.int k) => .int k
 | some .bool => .bool
 | some .string => .string
 | _ => .no
def Qf : Value → FK
 | .int k _ => .int k
 | .bool _ => .bool
 | .string _ => .string
 | _ => .no
def vEq : Value → Value → Bool
 | .int _ a, .int _ b => decide (a = b)
 | .bool a, .bool b => decide (a = b)
 | .string a, .string b => decide (a = b)
 | _, _ => false
def Q9 : List Value → List Value → Bool
 | [], _ => true
 | [x], y :: _ => vEq x y
 | x :: x2 :: xs, y :: ys => bif vEq x y then Q9 (x2 :: xs) ys else false
 | _ :: _, [] => false
def eqF (P : Program) : List Field → Nat → List FK → Bool
 | [], _, [] => true
 | f :: fs, i, k :: ks => f.offset == i && f.name != "_" && decide (UO P f.type = k) && decide (k ≠ .no) && !YR P f.type && (P.underlying f.type).isSome && eqF P fs (i + 1) ks
 | _, _, _ => false
structure EqT (P : Program) (t : TypeId) (ks : List FK) : Prop where
 und : P.underlying t = some (.struct (P.fieldsOf t))
 held : P.stoodInHeld t = false
 guard : P.eqGuardType P.depth t = false
 fs : eqF P (P.fieldsOf t).toList 0 ks = true
section
variable {P : Program} {T : Tab} [hT : TabOk P T] {n : Nat} {os l : List Oper} {K : Kt} {F : Fm} {w g : World}
theorem Za5 (d : Nat) (t : TypeId) (x y : Value) (hx : Qf x = UO P t) (hy : Qf y = UO P t) (hk : UO P t ≠ .no) : (Op.equalIn (d + 1) t x y).run P w = .ok (vEq x y) w := by
 unfold UO at hx hy hk
 split at hx
 ·rename_i k hu
  cases x <;> simp [Qf] at hx
  simp only [hu] at hy
  cases y <;> simp [Qf] at hy
  subst hx; subst hy
  rw [run_equalIn_int w d t _ _ _ _ hu]; rfl
 ·rename_i hu
  cases x <;> simp [Qf] at hx
  simp only [hu] at hy
  cases y <;> simp [Qf] at hy
  rw [run_equalIn_bool' w d t _ _ hu]; rfl
 ·rename_i hu
  cases x <;> simp [Qf] at hx
  simp only [hu] at hy
  cases y <;> simp [Qf] at hy
  rename_i a b
  rw [run_equalIn_string w d t _ _ hu]
  congr 1
  simp only [vEq]
  by_cases h : a = b
  ·subst h; simp
  ·have : a.toList ≠ b.toList := fun e => h (by
    rw [ByteArray.toList_eq, ByteArray.toList_eq] at e
    obtain ⟨⟨x⟩⟩ := a
    obtain ⟨⟨y⟩⟩ := b
    have e : x = y := e
    rw [e])
   simp [h, this]
 ·rename_i h1 h2 h3
  split at hk
  ·rename_i k hu; exact absurd hu (h1 k)
  ·rename_i hu; exact absurd hu h2
  ·rename_i hu; exact absurd hu h3
  ·exact absurd rfl hk
theorem ZR (d : Nat) (X Y : Array Value) : ∀ (fs : List Field) (i : Nat) (ks : List FK) (xs ys : List Value), eqF P fs i ks = true → X.toList.drop i = xs → Y.toList.drop i = ys → xs.map Qf = ks → ys.map Qf = ks →
  (Op.eqFields (d + 1) X Y fs).run P w = .ok (Q9 xs ys) w
 | [], i, ks, xs, ys, h, hx, hy, kx, ky => by
  cases ks with
  | cons k ks => simp [eqF] at h
  | nil =>
   have : xs = [] := List.map_eq_nil_iff.1 kx
   subst this
   simp [Op.eqFields, Q9]
 | f :: fs, i, [], xs, ys, h, hx, hy, kx, ky => by simp [eqF] at h
 | f :: fs, i, k :: ks, xs, ys, h, hx, hy, kx, ky => by
  simp only [eqF, Bool.and_eq_true, beq_iff_eq, bne_iff_ne, Bool.not_eq_true', decide_eq_true_eq] at h
  obtain ⟨⟨⟨⟨⟨⟨h1, h2⟩, h3⟩, h4⟩, h5⟩, h6⟩, h7⟩ := h
  match xs, kx with
  | x :: xs, kx =>
   match ys, ky with
   | y :: ys, ky =>
    simp only [List.map_cons, List.cons.injEq] at kx ky
    have hX : X[i]? = some x := by
     have : (X.toList.drop i)[0]? = some x := by rw [hx]; rfl
     simpa using this
    have hY : Y[i]? = some y := by
     have : (Y.toList.drop i)[0]? = some y := by rw [hy]; rfl
     simpa using this
    have px : (part f.type X f.offset).run P w = .ok x w := by
     rw [h1]; simp [part, YX w h6, h5, hX]
    have py : (part f.type Y f.offset).run P w = .ok y w := by
     rw [h1]; simp [part, YX w h6, h5, hY]
    have hx2 : X.toList.drop (i + 1) = xs := by rw [← List.drop_drop, hx]; rfl
    have hy2 : Y.toList.drop (i + 1) = ys := by rw [← List.drop_drop, hy]; rfl
    have ih := ZR d X Y fs (i + 1) ks xs ys h7 hx2 hy2 kx.2 ky.2
    have he := Za5 (P := P) (w := w) d f.type x y (by rw [kx.1, h3]) (by rw [ky.1, h3]) (by rw [h3]; exact h4)
    simp only [Op.eqFields, ne_eq, h2, not_false_eq_true, if_true, Sem.run_bind, px, py, he, Result.andThen_ok, Sem.run_ite, ih]
    cases hv : vEq x y with
    | true =>
     simp only [Bool.not_true, Bool.false_eq_true, if_false]
     congr 1
     match xs, kx.2 with
     | [], kk =>
      have : ks = [] := by rw [← kk]; rfl
      subst this
      simp [Q9, hv]
     | x2 :: xs, _ => simp [Q9, hv]
    | false =>
     simp only [Bool.not_false, if_true, Sem.run_pure]
     congr 1
     cases xs <;> simp [Q9, hv]
theorem Zgu {o : Oper} {t yt : TypeId} {x y : Operand} {ks : List FK} {xs ys : List Value} (hg : o.guard = none) (ho : o.op = .binOp .eql t x y yt) (hE : EqT P t ks) (hx : ev F x = .agg xs.toArray) (hy : ev F y = .agg ys.toArray) (kx : xs.map Qf = ks) (ky : ys.map Qf = ks)
  (hk : WL P n os l K (Zy F o.dst (.bool (Q9 xs ys))) w) : WL P n os (o :: l) K F w := by
 refine Zf2 hg (fun hok => ?_) hk
 have e1 := Zc (F := F) hok (x := x) (by simp [ho, Op.operands])
 have e2 := Zc (F := F) hok (x := y) (by simp [ho, Op.operands])
 have h1 := run_equalIn_agg (P := P) w 9999 t xs.toArray ys.toArray hE.und hE.held
 have h2 := ZR (P := P) (w := w) 9998 xs.toArray ys.toArray _ 0 ks xs ys hE.fs (by simp) (by simp) kx ky
 simp only [execOp, ho, e1, e2, hx, hy, Sem.run_bind, run_eqGuard_agg w _ _ _ _ _ _ hE.guard, run_eql_struct, h1, h2, Result.andThen_ok, Sem.run_pure]
theorem Zg8 {o : Oper} {t yt : TypeId} {x y : Operand} {ks : List FK} {xs ys : List Value} (hg : o.guard = none) (ho : o.op = .binOp .neq t x y yt) (hE : EqT P t ks) (hx : ev F x = .agg xs.toArray) (hy : ev F y = .agg ys.toArray) (kx : xs.map Qf = ks) (ky : ys.map Qf = ks)
  (hk : WL P n os l K (Zy F o.dst (.bool (!Q9 xs ys))) w) : WL P n os (o :: l) K F w := by
 refine Zf2 hg (fun hok => ?_) hk
 have e1 := Zc (F := F) hok (x := x) (by simp [ho, Op.operands])
 have e2 := Zc (F := F) hok (x := y) (by simp [ho, Op.operands])
 have h1 := run_equalIn_agg (P := P) w 9999 t xs.toArray ys.toArray hE.und hE.held
 have h2 := ZR (P := P) (w := w) 9998 xs.toArray ys.toArray _ 0 ks xs ys hE.fs (by simp) (by simp) kx ky
 simp only [execOp, ho, e1, e2, hx, hy, Sem.run_bind, run_eqGuard_agg w _ _ _ _ _ _ hE.guard, run_neq_struct, h1, h2, Result.andThen_ok, Sem.run_pure]
end
end Go.V
namespace Go.V
open Go Go.RowKit
section
variable {P : Program} {T : Tab} [hT : TabOk P T] {n : Nat} {os l : List Oper} {K : Fm → Prop} {F : Fm} {w g : World} {L : List HP} {size bytes : Nat} {z : Array Value}
theorem Zgb {o : Oper} {v : Value} (hg : o.guard = none) (hr : QC n o = true → ∀ m, (execOp (ZU n F).eval o).run P (w.drewN m) = .ok (.value v) (w.drewN m)) (hk : WQ P n os l w K (Zy F o.dst v)) : WQ P n os (o :: l) w K F :=
 ⟨fun h1 h2 => by
  obtain ⟨h3, h4⟩ := ZG h2
  unfold wpQuiet
  rw [if_pos (by simp [Region.wanted, hg])]
  refine ⟨v, ?_, ?_⟩
  ·rintro w' ⟨m, rfl⟩
   unfold Oper.quietAt
   rw [hr h3 m]
   exact ⟨rfl, rfl⟩
  ·rw [ZZ]
   exact hk.go h1 h4⟩
theorem Zg9 {o : Oper} {t : TypeId} {x : Operand} {b : Nat} {cs : Array Value} {t' : TypeId} (hg : o.guard = none) (ho : o.op = .load t x) (i : Nat) (Z : St g L w) (hi : L[i]? = some (Zd b cs t')) (hx : ev F x = .pointer (some ⟨b, 0, none⟩)) (ht : Xl P t cs.size)
  (hk : WQ P n os l w K (Zy F o.dst (.agg cs))) : WQ P n os (o :: l) w K F := by
 refine Zgb hg (fun hok mm => ?_) hk
 generalize hw0 : w.drewN mm = w0
 replace Z : St g L w0 := hw0 ▸ Z.drewN mm
 clear hw0
 have e1 := Zc (F := F) hok (x := x) (by simp [ho, Op.operands])
 have hl := Z3 (P := P) (w := w0) (b := b) (off := 0) (cs := cs.toList) ht (by simp) (fun j u hj => by rw [Nat.zero_add]; exact Z.ld i hi (by simpa using hj))
 simp only [execOp, ho, e1, hx, Instr.loadAt, Instr.sureAddr, Sem.run_bind, Sem.run_pure, Result.andThen_ok, hl, Array.toArray_toList]
theorem Zgh {o : Oper} {t : TypeId} {x : Operand} {b off : Nat} (hg : o.guard = none) (ho : o.op = .load t x) (cs : List Value) (ht : Xl P t cs.length) (hx : ev F x = .pointer (some ⟨b, off, none⟩)) (hc : ∀ (j : Nat) (u : Value), cs[j]? = some u → w.cell? ⟨b, off + j, none⟩ = some u)
  (hk : WQ P n os l w K (Zy F o.dst (.agg cs.toArray))) : WQ P n os (o :: l) w K F := by
 refine Zgb hg (fun hok mm => ?_) hk
 generalize hw0 : w.drewN mm = w0
 replace hc : ∀ (j : Nat) (u : Value), cs[j]? = some u → w0.cell? ⟨b, off + j, none⟩ = some u := by subst hw0; exact hc
 clear hw0
 have e1 := Zc (F := F) hok (x := x) (by simp [ho, Op.operands])
 simp only [execOp, ho, e1, hx, Instr.loadAt, Instr.sureAddr, Sem.run_bind, Sem.run_pure, Result.andThen_ok, Z3 ht rfl hc]
theorem Zf1 {o : Oper} {t e : TypeId} {z : Array Value} {size bytes m c : Nat} {x y : Operand} {a : Option Addr} {kk : IntKind} {i : Int} (hg : o.guard = none) (ho : o.op = .indexAddr t x y) (k : Nat) (hE : Elem P t e z size bytes) (hx : ev F x = .slice a m c) (hy : ev F y = .int kk i) (hik : i = k) (hlt : k < m) (hA : IsA a)
  (hk : WQ P n os l w K (Zy F o.dst (.pointer (some ⟨bo a, oo a + k * size, none⟩)))) : WQ P n os (o :: l) w K F := by
 refine Zgb hg (fun hok mm => ?_) hk
 generalize hw0 : w.drewN mm = w0
 clear hw0
 have e1 := Zc (F := F) hok (x := x) (by simp [ho, Op.operands])
 have e2 := Zc (F := F) hok (x := y) (by simp [ho, Op.operands])
 obtain ⟨b, off, rfl⟩ := hA
 obtain ⟨info, zv, h1, h2, h3, h4, h5⟩ := hE.info
 subst hik
 have hr : (0 : Int) ≤ k ∧ (k : Int) < m := by omega
 have hadd : (⟨b, off, none⟩ : Addr).add (k * size) = ⟨b, off + k * size, none⟩ := by unfold Addr.add; split <;> simp_all
 simp only [execOp, ho, e1, hx, e2, hy, Instr.indexAt, asIntOf, Sem.run_bind, Sem.run_pure, Result.andThen_ok, run_underlying hE.und, hr, and_self, if_true]
 simp [sizeOf, typeInfo, h1, h4, hadd, bo, oo]
theorem Zgl {o : Oper} {t : TypeId} {ps : List (Nat × Operand)} {pl : List (Nat × Nat × Bool)} {cs : List Value} (hg : o.guard = none) (ho : o.op = .build t ps.toArray) (hz : ZV P t z) (hf : lk T.flds t = some pl) (h : XH (Cd pl) z.toList (Do F ps) = some cs)
  (hk : WQ P n os l w K (Zy F o.dst (.agg cs.toArray))) : WQ P n os (o :: l) w K F := by
 obtain ⟨i, zv, h1, h2, h3⟩ := hz
 obtain ⟨h4, fs, h5, h6⟩ := (Tab.parts (P := P) (T := T)).2.2.2.2.2.1 _ (Jo _ _ _ hf)
 refine Zgb hg (fun hok mm => ?_) hk
 generalize hw0 : w.drewN mm = w0
 clear hw0
 have hev := JC (F := F) (ps := ps) hok (fun p hp => by
  simp only [ho, Op.operands]
  exact List.mem_map.2 ⟨p, by simpa using hp, rfl⟩)
 have hpl : (fs.toList.mapM fun (f : Field) => (do pure (f.offset, ← sizeOf f.type) : Sem (Nat × Nat))).run P w0 = .ok (pl.map fun r => (r.1, r.2.1)) w0 := by
  refine Xr _ w0 _ _ (by simpa using h6) fun j f r hj hr => ?_
  rw [List.getElem?_map] at hr
  cases hq : pl[j]? with
  | none => simp [hq] at hr
  | some r0 =>
   simp only [hq, Option.map_some, Option.some.injEq] at hr
   have h7 := Yt pl 0 h4 j r0 hq
   simp only [Nat.zero_add, X', h5] at h7
   have hj' : fs[j]? = some f := by simpa using hj
   simp only [hj', Bool.and_eq_true, beq_iff_eq] at h7
   obtain ⟨⟨⟨⟨q1, q2⟩, _⟩, _⟩, _⟩ := h7
   split at q2
   ·rename_i info hinfo
    simp only [Sem.run_bind, ZI w0 ⟨info, hinfo, rfl⟩, Result.andThen_ok, Sem.run_pure, ← hr, q1]
    simp at q2; rw [q2]
   ·cases q2
 have hfill := XY (Cd pl) (Do F ps) z.toList cs h
 have e0 : (fun i => ((pl.map fun r => (r.1, r.2.1)).toArray)[i]?) = Cd pl := by
  funext i
  simp only [Cd, Yo, List.getElem?_toArray, List.getElem?_map]
  cases pl[i]? <;> rfl
 have e1 : fs = fs.toList.toArray := by simp
 have e2 : (fs.mapM fun (f : Field) => (do pure (f.offset, ← sizeOf f.type) : Sem (Nat × Nat))).run P w0 = .ok (pl.map fun r => (r.1, r.2.1)).toArray w0 := by
  rw [e1, List.mapM_toArray]
  simp only [Sem.run_map, hpl, Result.andThen_ok]
 simp only [Array.toArray_toList] at hfill
 have hzv : (zeroValue t).run P w0 = .ok zv w0 := by simp [zeroValue, typeInfo, h1, h2]
 simp only [execOp, ho, Instr.build, Sem.run_bind, hzv, Sem.run_pure, Result.andThen_ok, run_underlying h5, h3, e2, e0, hev, hfill]
theorem Zha {o : Oper} {t yt : TypeId} {x y : Operand} {ks : List FK} {xs ys : List Value} (hg : o.guard = none) (ho : o.op = .binOp .eql t x y yt) (hE : EqT P t ks) (hx : ev F x = .agg xs.toArray) (hy : ev F y = .agg ys.toArray) (kx : xs.map Qf = ks) (ky : ys.map Qf = ks)
  (hk : WQ P n os l w K (Zy F o.dst (.bool (Q9 xs ys)))) : WQ P n os (o :: l) w K F := by
 refine Zgb hg (fun hok mm => ?_) hk
 generalize hw0 : w.drewN mm = w0
 clear hw0
 have e1 := Zc (F := F) hok (x := x) (by simp [ho, Op.operands])
 have e2 := Zc (F := F) hok (x := y) (by simp [ho, Op.operands])
 have h1 := run_equalIn_agg (P := P) w0 9999 t xs.toArray ys.toArray hE.und hE.held
 have h2 := ZR (P := P) (w := w0) 9998 xs.toArray ys.toArray _ 0 ks xs ys hE.fs (by simp) (by simp) kx ky
 simp only [execOp, ho, e1, e2, hx, hy, Sem.run_bind, run_eqGuard_agg w0 _ _ _ _ _ _ hE.guard, run_eql_struct, h1, h2, Result.andThen_ok, Sem.run_pure]
theorem Zgv {o : Oper} {t yt : TypeId} {x y : Operand} {ks : List FK} {xs ys : List Value} (hg : o.guard = none) (ho : o.op = .binOp .neq t x y yt) (hE : EqT P t ks) (hx : ev F x = .agg xs.toArray) (hy : ev F y = .agg ys.toArray) (kx : xs.map Qf = ks) (ky : ys.map Qf = ks)
  (hk : WQ P n os l w K (Zy F o.dst (.bool (!Q9 xs ys)))) : WQ P n os (o :: l) w K F := by
 refine Zgb hg (fun hok mm => ?_) hk
 generalize hw0 : w.drewN mm = w0
 clear hw0
 have e1 := Zc (F := F) hok (x := x) (by simp [ho, Op.operands])
 have e2 := Zc (F := F) hok (x := y) (by simp [ho, Op.operands])
 have h1 := run_equalIn_agg (P := P) w0 9999 t xs.toArray ys.toArray hE.und hE.held
 have h2 := ZR (P := P) (w := w0) 9998 xs.toArray ys.toArray _ 0 ks xs ys hE.fs (by simp) (by simp) kx ky
 simp only [execOp, ho, e1, e2, hx, hy, Sem.run_bind, run_eqGuard_agg w0 _ _ _ _ _ _ hE.guard, run_neq_struct, h1, h2, Result.andThen_ok, Sem.run_pure]
theorem Zhb {o : Oper} {t : TypeId} {x y : Operand} {s : ByteArray} {kk : IntKind} {v : Int} (hg : o.guard = none) (ho : o.op = .index t x y) (k : Nat) {b : Int} (hT : mem T.strs t = true) (hx : ev F x = .string s) (hy : ev F y = .int kk v) (hv : v = k) (hb : (sb s)[k]? = some b)
  (hk : WQ P n os l w K (Zy F o.dst (.int .u8 b))) : WQ P n os (o :: l) w K F := by
 subst hv
 have hu : P.underlying t = some .string := Tab.str hT
 refine Zgb hg (fun hok mm => ?_) hk
 generalize hw0 : w.drewN mm = w0
 clear hw0
 have e1 := Zc (F := F) hok (x := x) (by simp [ho, Op.operands])
 have e2 := Zc (F := F) hok (x := y) (by simp [ho, Op.operands])
 simp only [sb, List.getElem?_map] at hb
 cases hq : s.data.toList[k]? with
 | none => simp [hq] at hb
 | some c =>
  simp only [hq, Option.map_some, Option.some.injEq] at hb
  have hs : s[k]? = some c := by
   have hlt := (List.getElem?_eq_some_iff.1 hq).1
   have hlt2 : k < s.size := by simpa using hlt
   have h3 : s[k] = c := (List.getElem?_eq_some_iff.1 hq).2
   rw [getElem?_pos s k hlt2, h3]
  subst hb
  simp [execOp, ho, e1, hx, e2, hy, Instr.index, asIntOf, run_underlying hu, hs]
theorem Zgc {o : Oper} {v : Value} {d : Nat} (hg : o.guard = none) (hr : QC n o = true → ∀ m, (execOp (ZU n F).eval o).run P (w.drewN m) = .ok (.value v) (w.drewN m)) (hd : o.dst = some d) (hv : F d = v) : RQ P n os w F o :=
 ⟨fun _ h2 => by
  unfold wpQuiet
  rw [if_pos (by simp [Region.wanted, hg])]
  refine ⟨v, ?_, ?_⟩
  ·rintro w' ⟨m, rfl⟩
   unfold Oper.quietAt
   rw [hr h2 m]
   exact ⟨rfl, rfl⟩
  ·show _ = _
   rw [ZZ, hd]
   show ZU n (upd F d v) = _
   rw [XJ hv]⟩
theorem Zhc {o : Oper} {t : TypeId} {x : Operand} {b : Nat} {cs : Array Value} {t' : TypeId} (hg : o.guard = none) (ho : o.op = .load t x) (i : Nat) (Z : St g L w) (hi : L[i]? = some (Zd b cs t')) (hx : ev F x = .pointer (some ⟨b, 0, none⟩)) (ht : Xl P t cs.size)
  {d : Nat} (hd : o.dst = some d) (hfd : F d = (.agg cs)) : RQ P n os w F o := by
 refine Zgc hg (fun hok mm => ?_) hd hfd
 generalize hw0 : w.drewN mm = w0
 replace Z : St g L w0 := hw0 ▸ Z.drewN mm
 clear hw0
 have e1 := Zc (F := F) hok (x := x) (by simp [ho, Op.operands])
 have hl := Z3 (P := P) (w := w0) (b := b) (off := 0) (cs := cs.toList) ht (by simp) (fun j u hj => by rw [Nat.zero_add]; exact Z.ld i hi (by simpa using hj))
 simp only [execOp, ho, e1, hx, Instr.loadAt, Instr.sureAddr, Sem.run_bind, Sem.run_pure, Result.andThen_ok, hl, Array.toArray_toList]
theorem Zhd {o : Oper} {t : TypeId} {x : Operand} {b off : Nat} (hg : o.guard = none) (ho : o.op = .load t x) (cs : List Value) (ht : Xl P t cs.length) (hx : ev F x = .pointer (some ⟨b, off, none⟩)) (hc : ∀ (j : Nat) (u : Value), cs[j]? = some u → w.cell? ⟨b, off + j, none⟩ = some u)
  {d : Nat} (hd : o.dst = some d) (hfd : F d = (.agg cs.toArray)) : RQ P n os w F o := by
 refine Zgc hg (fun hok mm => ?_) hd hfd
 generalize hw0 : w.drewN mm = w0
 replace hc : ∀ (j : Nat) (u : Value), cs[j]? = some u → w0.cell? ⟨b, off + j, none⟩ = some u := by subst hw0; exact hc
 clear hw0
 have e1 := Zc (F := F) hok (x := x) (by simp [ho, Op.operands])
 simp only [execOp, ho, e1, hx, Instr.loadAt, Instr.sureAddr, Sem.run_bind, Sem.run_pure, Result.andThen_ok, Z3 ht rfl hc]
theorem Zgm {o : Oper} {t e : TypeId} {z : Array Value} {size bytes m c : Nat} {x y : Operand} {a : Option Addr} {kk : IntKind} {i : Int} (hg : o.guard = none) (ho : o.op = .indexAddr t x y) (k : Nat) (hE : Elem P t e z size bytes) (hx : ev F x = .slice a m c) (hy : ev F y = .int kk i) (hik : i = k) (hlt : k < m) (hA : IsA a)
  {d : Nat} (hd : o.dst = some d) (hfd : F d = (.pointer (some ⟨bo a, oo a + k * size, none⟩))) : RQ P n os w F o := by
 refine Zgc hg (fun hok mm => ?_) hd hfd
 generalize hw0 : w.drewN mm = w0
 clear hw0
 have e1 := Zc (F := F) hok (x := x) (by simp [ho, Op.operands])
 have e2 := Zc (F := F) hok (x := y) (by simp [ho, Op.operands])
 obtain ⟨b, off, rfl⟩ := hA
 obtain ⟨info, zv, h1, h2, h3, h4, h5⟩ := hE.info
 subst hik
 have hr : (0 : Int) ≤ k ∧ (k : Int) < m := by omega
 have hadd : (⟨b, off, none⟩ : Addr).add (k * size) = ⟨b, off + k * size, none⟩ := by unfold Addr.add; split <;> simp_all
 simp only [execOp, ho, e1, hx, e2, hy, Instr.indexAt, asIntOf, Sem.run_bind, Sem.run_pure, Result.andThen_ok, run_underlying hE.und, hr, and_self, if_true]
 simp [sizeOf, typeInfo, h1, h4, hadd, bo, oo]
theorem Zhe {o : Oper} {t : TypeId} {ps : List (Nat × Operand)} {pl : List (Nat × Nat × Bool)} {cs : List Value} (hg : o.guard = none) (ho : o.op = .build t ps.toArray) (hz : ZV P t z) (hf : lk T.flds t = some pl) (h : XH (Cd pl) z.toList (Do F ps) = some cs)
  {d : Nat} (hd : o.dst = some d) (hfd : F d = (.agg cs.toArray)) : RQ P n os w F o := by
 obtain ⟨i, zv, h1, h2, h3⟩ := hz
 obtain ⟨h4, fs, h5, h6⟩ := (Tab.parts (P := P) (T := T)).2.2.2.2.2.1 _ (Jo _ _ _ hf)
 refine Zgc hg (fun hok mm => ?_) hd hfd
 generalize hw0 : w.drewN mm = w0
 clear hw0
 have hev := JC (F := F) (ps := ps) hok (fun p hp => by
  simp only [ho, Op.operands]
  exact List.mem_map.2 ⟨p, by simpa using hp, rfl⟩)
 have hpl : (fs.toList.mapM fun (f : Field) => (do Pure.pure (f.offset, ← sizeOf f.type) : Sem (Nat × Nat))).run P w0 = .ok (pl.map fun r => (r.1, r.2.1)) w0 := by
  refine Xr _ w0 _ _ (by simpa using h6) fun j f r hj hr => ?_
  rw [List.getElem?_map] at hr
  cases hq : pl[j]? with
  | none => simp [hq] at hr
  | some r0 =>
   simp only [hq, Option.map_some, Option.some.injEq] at hr
   have h7 := Yt pl 0 h4 j r0 hq
   simp only [Nat.zero_add, X', h5] at h7
   have hj' : fs[j]? = some f := by simpa using hj
   simp only [hj', Bool.and_eq_true, beq_iff_eq] at h7
   obtain ⟨⟨⟨⟨q1, q2⟩, _⟩, _⟩, _⟩ := h7
   split at q2
   ·rename_i info hinfo
    simp only [Sem.run_bind, ZI w0 ⟨info, hinfo, rfl⟩, Result.andThen_ok, Sem.run_pure, ← hr, q1]
    simp at q2; rw [q2]
   ·cases q2
 have hfill := XY (Cd pl) (Do F ps) z.toList cs h
 have e0 : (fun i => ((pl.map fun r => (r.1, r.2.1)).toArray)[i]?) = Cd pl := by
  funext i
  simp only [Cd, Yo, List.getElem?_toArray, List.getElem?_map]
  cases pl[i]? <;> rfl
 have e1 : fs = fs.toList.toArray := by simp
 have e2 : (fs.mapM fun (f : Field) => (do Pure.pure (f.offset, ← sizeOf f.type) : Sem (Nat × Nat))).run P w0 = .ok (pl.map fun r => (r.1, r.2.1)).toArray w0 := by
  rw [e1, List.mapM_toArray]
  simp only [Sem.run_map, hpl, Result.andThen_ok]
 simp only [Array.toArray_toList] at hfill
 have hzv : (zeroValue t).run P w0 = .ok zv w0 := by simp [zeroValue, typeInfo, h1, h2]
 simp only [execOp, ho, Instr.build, Sem.run_bind, hzv, Sem.run_pure, Result.andThen_ok, run_underlying h5, h3, e2, e0, hev, hfill]
theorem Zhf {o : Oper} {t yt : TypeId} {x y : Operand} {ks : List FK} {xs ys : List Value} (hg : o.guard = none) (ho : o.op = .binOp .eql t x y yt) (hE : EqT P t ks) (hx : ev F x = .agg xs.toArray) (hy : ev F y = .agg ys.toArray) (kx : xs.map Qf = ks) (ky : ys.map Qf = ks)
  {d : Nat} (hd : o.dst = some d) (hfd : F d = (.bool (Q9 xs ys))) : RQ P n os w F o := by
 refine Zgc hg (fun hok mm => ?_) hd hfd
 generalize hw0 : w.drewN mm = w0
 clear hw0
 have e1 := Zc (F := F) hok (x := x) (by simp [ho, Op.operands])
 have e2 := Zc (F := F) hok (x := y) (by simp [ho, Op.operands])
 have h1 := run_equalIn_agg (P := P) w0 9999 t xs.toArray ys.toArray hE.und hE.held
 have h2 := ZR (P := P) (w := w0) 9998 xs.toArray ys.toArray _ 0 ks xs ys hE.fs (by simp) (by simp) kx ky
 simp only [execOp, ho, e1, e2, hx, hy, Sem.run_bind, run_eqGuard_agg w0 _ _ _ _ _ _ hE.guard, run_eql_struct, h1, h2, Result.andThen_ok, Sem.run_pure]
theorem Zhg {o : Oper} {t yt : TypeId} {x y : Operand} {ks : List FK} {xs ys : List Value} (hg : o.guard = none) (ho : o.op = .binOp .neq t x y yt) (hE : EqT P t ks) (hx : ev F x = .agg xs.toArray) (hy : ev F y = .agg ys.toArray) (kx : xs.map Qf = ks) (ky : ys.map Qf = ks)
  {d : Nat} (hd : o.dst = some d) (hfd : F d = (.bool (!Q9 xs ys))) : RQ P n os w F o := by
 refine Zgc hg (fun hok mm => ?_) hd hfd
 generalize hw0 : w.drewN mm = w0
 clear hw0
 have e1 := Zc (F := F) hok (x := x) (by simp [ho, Op.operands])
 have e2 := Zc (F := F) hok (x := y) (by simp [ho, Op.operands])
 have h1 := run_equalIn_agg (P := P) w0 9999 t xs.toArray ys.toArray hE.und hE.held
 have h2 := ZR (P := P) (w := w0) 9998 xs.toArray ys.toArray _ 0 ks xs ys hE.fs (by simp) (by simp) kx ky
 simp only [execOp, ho, e1, e2, hx, hy, Sem.run_bind, run_eqGuard_agg w0 _ _ _ _ _ _ hE.guard, run_neq_struct, h1, h2, Result.andThen_ok, Sem.run_pure]
theorem Zhh {o : Oper} {t : TypeId} {x y : Operand} {s : ByteArray} {kk : IntKind} {v : Int} (hg : o.guard = none) (ho : o.op = .index t x y) (k : Nat) {b : Int} (hT : mem T.strs t = true) (hx : ev F x = .string s) (hy : ev F y = .int kk v) (hv : v = k) (hb : (sb s)[k]? = some b)
  {d : Nat} (hd : o.dst = some d) (hfd : F d = (.int .u8 b)) : RQ P n os w F o := by
 subst hv
 have hu : P.underlying t = some .string := Tab.str hT
 refine Zgc hg (fun hok mm => ?_) hd hfd
 generalize hw0 : w.drewN mm = w0
 clear hw0
 have e1 := Zc (F := F) hok (x := x) (by simp [ho, Op.operands])
 have e2 := Zc (F := F) hok (x := y) (by simp [ho, Op.operands])
 simp only [sb, List.getElem?_map] at hb
 cases hq : s.data.toList[k]? with
 | none => simp [hq] at hb
 | some c =>
  simp only [hq, Option.map_some, Option.some.injEq] at hb
  have hs : s[k]? = some c := by
   have hlt := (List.getElem?_eq_some_iff.1 hq).1
   have hlt2 : k < s.size := by simpa using hlt
   have h3 : s[k] = c := (List.getElem?_eq_some_iff.1 hq).2
   rw [getElem?_pos s k hlt2, h3]
  subst hb
  simp [execOp, ho, e1, hx, e2, hy, Instr.index, asIntOf, run_underlying hu, hs]
theorem St.part {b t off : Nat} {cs : Array Value} {sub : List Value} (h : St g L w) (i : Nat) (hi : L[i]? = some (Zd b cs t)) (hs : (cs.toList.drop off).take sub.length = sub) : ∀ (j : Nat) (u : Value), sub[j]? = some u → w.cell? ⟨b, off + j, none⟩ = some u := fun j u hj => h.ld i hi (by
 have hlt := (List.getElem?_eq_some_iff.1 hj).1
 rw [← hs, List.getElem?_take_of_lt hlt, List.getElem?_drop] at hj
 simpa using hj)
end
section
variable {P : Program} {T : Tab} [hT : TabOk P T] {n : Nat} {os l : List Oper} {K : Kt} {F : Fm} {w : World}
theorem YA (hos : XS n os = true) {o : Oper} {i d : Nat} {b v : Bool} (hg : o.guard = some (i, b)) (hs : YD os i = some d) (hv : F d = .bool v) : Region.wanted o (yielded os.toArray (ZU n F).tmps) = (v == b) := by
 unfold Region.wanted
 simp only [hg]
 unfold YD at hs
 rw [Yo] at hs
 cases hj : os[i]? with
 | none => simp [hj] at hs
 | some oj =>
  simp only [hj] at hs
  have hlt : d < n := by
   have h1 := XZ os hos i oj hj
   simp only [QC, hs, okD, Bool.and_eq_true] at h1
   exact YL.1 h1.2
  simp [yielded, hj, hs, act_get? n F d hlt, hv]
theorem Zfh {o : Oper} {i d : Nat} {b : Bool} (hg : o.guard = some (i, b)) (hs : YD os i = some d) (hv : F d = .bool b) (h : WL P n os ({ o with guard := none } :: l) K F w) : WL P n os (o :: l) K F w :=
 ⟨fun h1 h2 => by
  have h3 := h.go h1 h2
  have hw := YA (F := F) h1 hg hs hv
  unfold wpList at h3 ⊢
  rw [if_pos (by simp [Region.wanted])] at h3
  rw [if_pos (by rw [hw]; simp)]
  exact h3⟩
theorem Ze9 {o : Oper} {i d : Nat} {b v : Bool} (hg : o.guard = some (i, b)) (hs : YD os i = some d) (hv : F d = .bool v) (hne : (v == b) = false) (h : WL P n os l K (Zy F o.dst undef) w) : WL P n os (o :: l) K F w :=
 ⟨fun h1 h2 => by
  obtain ⟨_, h4⟩ := ZG h2
  have hw := YA (F := F) h1 hg hs hv
  unfold wpList
  rw [if_neg (by rw [hw, hne]; decide), ZZ]
  exact h.go h1 h4⟩
theorem Zfk {K : Fm → Prop} {o : Oper} {i d : Nat} {b : Bool} (hg : o.guard = some (i, b)) (hs : YD os i = some d) (hv : F d = .bool b) (h : WQ P n os ({ o with guard := none } :: l) w K F) : WQ P n os (o :: l) w K F :=
 ⟨fun h1 h2 => by
  have h3 := h.go h1 h2
  have hw := YA (F := F) h1 hg hs hv
  unfold wpQuiet at h3 ⊢
  rw [if_pos (by simp [Region.wanted])] at h3
  rw [if_pos (by rw [hw]; simp)]
  exact h3⟩
theorem Zfx {K : Fm → Prop} {o : Oper} {i d : Nat} {b v : Bool} (hg : o.guard = some (i, b)) (hs : YD os i = some d) (hv : F d = .bool v) (hne : (v == b) = false) (h : WQ P n os l w K (Zy F o.dst undef)) : WQ P n os (o :: l) w K F :=
 ⟨fun h1 h2 => by
  obtain ⟨_, h4⟩ := ZG h2
  have hw := YA (F := F) h1 hg hs hv
  unfold wpQuiet
  rw [if_neg (by rw [hw, hne]; decide), ZZ]
  exact h.go h1 h4⟩
theorem Zhi {o : Oper} {i d : Nat} {b : Bool} (hg : o.guard = some (i, b)) (hs : YD os i = some d) (hv : F d = .bool b) (h : RQ P n os w F { o with guard := none }) : RQ P n os w F o :=
 ⟨fun h1 h2 => by
  have h3 := h.go h1 h2
  have hw := YA (F := F) h1 hg hs hv
  unfold wpQuiet at h3 ⊢
  rw [if_pos (by simp [Region.wanted])] at h3
  rw [if_pos (by rw [hw]; simp)]
  exact h3⟩
theorem Zhj {o : Oper} {i d t : Nat} {b v : Bool} (hg : o.guard = some (i, b)) (hs : YD os i = some d) (hv : F d = .bool v) (hne : (v == b) = false) (hd : o.dst = some t) (hu : F t = undef) : RQ P n os w F o :=
 ⟨fun h1 _ => by
  have hw := YA (F := F) h1 hg hs hv
  unfold wpQuiet
  rw [if_neg (by rw [hw, hne]; decide), ZZ, hd]
  show _ = _
  show ZU n (upd F t undef) = _
  rw [XJ hu]⟩
end
end Go.V
namespace Go.V
open Go Go.RowKit
section
variable {P : Program} {T : Tab} [hT : TabOk P T] {n : Nat} {os l : List Oper} {K : Fm → Prop} {F : Fm} {w g : World} {L : List HP} {e size bytes c : Nat} {z : Array Value} {ls : List (List Value)} {a : Option Addr}
theorem Zhk {o : Oper} {t : TypeId} {x y : Operand} {kk : IntKind} {v : Int} (hg : o.guard = none) (ho : o.op = .slice t x (some y) none none) (i lo : Nat) (ms : List (List Value)) (hE : Elem P t e z size bytes) (Z : St g L w) (hi : L[i]? = some (Sh e size ls a c)) (hx : ev F x = .slice a ls.length c) (hy : ev F y = .int kk v) (hv : v = lo) (hle : lo ≤ ls.length) (hms : ls.drop lo = ms)
  (hk : ∀ a', Jw a c lo size = a' → St g (Sh e size ms a' (c - lo) :: L) w → WQ P n os l w K (Zy F o.dst (.slice a' ms.length (c - lo)))) : WQ P n os (o :: l) w K F := by
 subst hms; subst hv
 have h0 := (Z.dup i hi (fun _ _ h => Sh.dup h)).impl (fun o r h => Jc hle (Nat.le_refl _) h)
 rw [List.take_length] at h0
 have hk' := hk _ rfl h0
 rw [List.length_drop] at hk'
 refine Zgb hg (fun hok m => ?_) hk'
 have e1 := Zc (F := F) hok (x := x) (by simp [ho, Op.operands])
 have e2 := Zc (F := F) hok (x := y) (by simp [ho, Op.operands])
 simp only [execOp, ho, e1, hx, Option.map_some, Option.map_none, e2, hy, Sem.run_bind, Zx hE _ _ lo ls.length ls.length (Jj hle), Result.andThen_ok, Sem.run_pure]
theorem Zhl {o : Oper} {t : TypeId} {x y : Operand} {kk : IntKind} {v : Int} (hg : o.guard = none) (ho : o.op = .slice t x none (some y) none) (i hi : Nat) (ms : List (List Value)) (hE : Elem P t e z size bytes) (Z : St g L w) (hi' : L[i]? = some (Sh e size ls a c)) (hx : ev F x = .slice a ls.length c) (hy : ev F y = .int kk v) (hv : v = hi) (hle : hi ≤ ls.length) (hms : ls.take hi = ms)
  (hk : ∀ a', Jw a c 0 size = a' → St g (Sh e size ms a' c :: L) w → WQ P n os l w K (Zy F o.dst (.slice a' ms.length c))) : WQ P n os (o :: l) w K F := by
 subst hms; subst hv
 have h0 := (Z.dup i hi' (fun _ _ h => Sh.dup h)).impl (fun o r h => Jc (Nat.zero_le _) hle h)
 rw [List.drop_zero, Nat.sub_zero] at h0
 have hk' := hk _ rfl h0
 rw [List.length_take, Nat.min_eq_left hle] at hk'
 obtain ⟨_, _, ⟨_, hc, _⟩, _, _⟩ := Z.get i hi'
 refine Zgb hg (fun hok m => ?_) hk'
 have e1 := Zc (F := F) hok (x := x) (by simp [ho, Op.operands])
 have e2 := Zc (F := F) hok (x := y) (by simp [ho, Op.operands])
 have hr := Zx (P := P) (w := w.drewN m) (c := c) (a := a) hE none (some (.int kk (hi : Int))) 0 hi ls.length (Xy (by omega))
 simp only [execOp, ho, e1, hx, Option.map_some, Option.map_none, e2, hy, Sem.run_bind, hr, Result.andThen_ok, Sem.run_pure, Nat.sub_zero]
theorem Zhm {o : Oper} {t : TypeId} {x y y' : Operand} {kk kk' : IntKind} {v v' : Int} (hg : o.guard = none) (ho : o.op = .slice t x (some y) (some y') none) (i lo hi : Nat) (ms : List (List Value)) (hE : Elem P t e z size bytes) (Z : St g L w) (hi' : L[i]? = some (Sh e size ls a c)) (hx : ev F x = .slice a ls.length c) (hy : ev F y = .int kk v) (hv : v = lo) (hy' : ev F y' = .int kk' v') (hv' : v' = hi)
  (hlh : lo ≤ hi) (hle : hi ≤ ls.length) (hms : (ls.take hi).drop lo = ms)
  (hk : ∀ a', Jw a c lo size = a' → St g (Sh e size ms a' (c - lo) :: L) w → WQ P n os l w K (Zy F o.dst (.slice a' ms.length (c - lo)))) : WQ P n os (o :: l) w K F := by
 subst hms; subst hv; subst hv'
 have h0 := (Z.dup i hi' (fun _ _ h => Sh.dup h)).impl (fun o r h => Jc hlh hle h)
 have hk' := hk _ rfl h0
 rw [List.length_drop, List.length_take, Nat.min_eq_left hle] at hk'
 obtain ⟨_, _, ⟨_, hc, _⟩, _, _⟩ := Z.get i hi'
 refine Zgb hg (fun hok m => ?_) hk'
 have e1 := Zc (F := F) hok (x := x) (by simp [ho, Op.operands])
 have e2 := Zc (F := F) hok (x := y) (by simp [ho, Op.operands])
 have e3 := Zc (F := F) hok (x := y') (by simp [ho, Op.operands])
 have hr := Zx (P := P) (w := w.drewN m) (c := c) (a := a) hE (some (.int kk (lo : Int))) (some (.int kk' (hi : Int))) lo hi ls.length (Ja hlh (by omega))
 simp only [execOp, ho, e1, hx, Option.map_some, Option.map_none, e2, hy, e3, hy', Sem.run_bind, hr, Result.andThen_ok, Sem.run_pure]
theorem Zhn {o : Oper} {t : TypeId} {x y : Operand} {kk : IntKind} {v : Int} {a' : Option Addr} {ms : List (List Value)} {d : Nat} (hg : o.guard = none) (ho : o.op = .slice t x (some y) none none) (lo : Nat) (hE : Elem P t e z size bytes) (hx : ev F x = .slice a ls.length c) (hy : ev F y = .int kk v) (hv : v = lo) (hle : lo ≤ ls.length) (hms : ls.drop lo = ms) (ha : Jw a c lo size = a')
  (hd : o.dst = some d) (hfd : F d = .slice a' ms.length (c - lo)) : RQ P n os w F o := by
 subst hms; subst hv; subst ha
 rw [List.length_drop] at hfd
 refine Zgc hg (fun hok m => ?_) hd hfd
 have e1 := Zc (F := F) hok (x := x) (by simp [ho, Op.operands])
 have e2 := Zc (F := F) hok (x := y) (by simp [ho, Op.operands])
 simp only [execOp, ho, e1, hx, Option.map_some, Option.map_none, e2, hy, Sem.run_bind, Zx hE _ _ lo ls.length ls.length (Jj hle), Result.andThen_ok, Sem.run_pure]
theorem Zho {o : Oper} {t : TypeId} {x y : Operand} {kk : IntKind} {v : Int} {a' : Option Addr} {ms : List (List Value)} {d : Nat} (hg : o.guard = none) (ho : o.op = .slice t x none (some y) none) (i hi : Nat) (hE : Elem P t e z size bytes) (Z : St g L w) (hi' : L[i]? = some (Sh e size ls a c)) (hx : ev F x = .slice a ls.length c) (hy : ev F y = .int kk v) (hv : v = hi) (hle : hi ≤ ls.length) (hms : ls.take hi = ms) (ha : Jw a c 0 size = a')
  (hd : o.dst = some d) (hfd : F d = .slice a' ms.length c) : RQ P n os w F o := by
 subst hms; subst hv; subst ha
 rw [List.length_take, Nat.min_eq_left hle] at hfd
 obtain ⟨_, _, ⟨_, hc, _⟩, _, _⟩ := Z.get i hi'
 refine Zgc hg (fun hok m => ?_) hd hfd
 have e1 := Zc (F := F) hok (x := x) (by simp [ho, Op.operands])
 have e2 := Zc (F := F) hok (x := y) (by simp [ho, Op.operands])
 have hr := Zx (P := P) (w := w.drewN m) (c := c) (a := a) hE none (some (.int kk (hi : Int))) 0 hi ls.length (Xy (by omega))
 simp only [execOp, ho, e1, hx, Option.map_some, Option.map_none, e2, hy, Sem.run_bind, hr, Result.andThen_ok, Sem.run_pure, Nat.sub_zero]
theorem Zhp {o : Oper} {t : TypeId} {x y y' : Operand} {kk kk' : IntKind} {v v' : Int} {a' : Option Addr} {ms : List (List Value)} {d : Nat} (hg : o.guard = none) (ho : o.op = .slice t x (some y) (some y') none) (i lo hi : Nat) (hE : Elem P t e z size bytes) (Z : St g L w) (hi' : L[i]? = some (Sh e size ls a c)) (hx : ev F x = .slice a ls.length c) (hy : ev F y = .int kk v) (hv : v = lo) (hy' : ev F y' = .int kk' v') (hv' : v' = hi) (hlh : lo ≤ hi) (hle : hi ≤ ls.length) (hms : (ls.take hi).drop lo = ms) (ha : Jw a c lo size = a')
  (hd : o.dst = some d) (hfd : F d = .slice a' ms.length (c - lo)) : RQ P n os w F o := by
 subst hms; subst hv; subst hv'; subst ha
 rw [List.length_drop, List.length_take, Nat.min_eq_left hle] at hfd
 obtain ⟨_, _, ⟨_, hc, _⟩, _, _⟩ := Z.get i hi'
 refine Zgc hg (fun hok m => ?_) hd hfd
 have e1 := Zc (F := F) hok (x := x) (by simp [ho, Op.operands])
 have e2 := Zc (F := F) hok (x := y) (by simp [ho, Op.operands])
 have e3 := Zc (F := F) hok (x := y') (by simp [ho, Op.operands])
 have hr := Zx (P := P) (w := w.drewN m) (c := c) (a := a) hE (some (.int kk (lo : Int))) (some (.int kk' (hi : Int))) lo hi ls.length (Ja hlh (by omega))
 simp only [execOp, ho, e1, hx, Option.map_some, Option.map_none, e2, hy, e3, hy', Sem.run_bind, hr, Result.andThen_ok, Sem.run_pure]
end
def ZP {α : Type} (f : α → List HP) (zs : List α) : HP := ⟨fun _ r => ∀ z ∈ zs, All (f z) (fun _ => none) r, fun _ _ _ _ _ hr h z hz => All.mono (f z) (Sub.refl _) hr (h z hz)⟩
section
variable {α : Type} {f : α → List HP} {zs : List α} {g w : World} {L : List HP}
theorem Dj.none (h : Hp) : Dj (fun _ => none) h := fun _ => .inl rfl
theorem St.shsNil (h : St g L w) (f : α → List HP) : St g (ZP f [] :: L) w := h.add fun _ _ => fun _ hz => by cases hz
theorem St.shsGet (h : St g L w) (i : Nat) {z : α} (hi : L[i]? = some (ZP f zs)) (hz : z ∈ zs) : St g (f z ++ L) w := by
 obtain ⟨o, r, a, b, c, d, e⟩ := h.own
 obtain ⟨o1, o2, h1, h2, hd, hh, hL⟩ := All.perm (XC hi) e
 exact ⟨h.os, h.tape, h.output, h.size, o, r, a, b, c, d, All.cat (f z) L (fun _ _ h => by cases h) (Sub.refl _) (Dj.none _) (hh z hz) e⟩
def Sht (A : HP) : Prop := ∀ o r, A.h o r → A.h (fun _ => none) r
theorem Sht.sh {e size c : Nat} {ls : List (List Value)} {a : Option Addr} : Sht (Sh e size ls a c) := fun _ _ h => Sh.dup h
theorem All.none_of : ∀ (M : List HP) {o r : Hp}, (∀ A ∈ M, Sht A) → All M o r → All M (fun _ => none) r
 | [], _, _, _, _ => trivial
 | A :: M, _, _, hA, ⟨_, _, _, _, _, hh, hM⟩ => ⟨fun _ => none, fun _ => none, Sub.refl _, Sub.refl _, Dj.none _, hA A (List.mem_cons_self ..) _ _ hh, All.none_of M (fun B hB => hA B (List.mem_cons_of_mem _ hB)) hM⟩
theorem St.shsCons (h : St g (ZP f zs :: L) w) {z : α} (hf : ∀ A ∈ f z, Sht A) (is : List Nat) (hp : Go.V.pick L is = some (f z)) : St g (ZP f (z :: zs) :: L) w := by
 obtain ⟨R, hR⟩ := St.sub_of is hp
 obtain ⟨o, r, a, b, c, d, o1, o2, h1, h2, hd, hh, hL⟩ := h.own
 have h3 := All.none_of (f z) hf (All.fst (f z) R (All.perm hR hL))
 exact ⟨h.os, h.tape, h.output, h.size, o, r, a, b, c, d, o1, o2, h1, h2, hd, fun y hy => by
  rcases List.mem_cons.1 hy with rfl | hy
  ·exact h3
  ·exact hh y hy, hL⟩
end
end Go.V
namespace Go.V
open Go Go.RowKit
structure MapT (P : Program) (t kt : TypeId) (d : TypeDesc) (et : TypeId) (z : Value) : Prop where
 und : P.underlying t = some (.map kt et)
 key : P.underlying kt = some d
 zero : ∃ i, P.info? et = some i ∧ i.zero = some z
theorem mtMk {P : Program} {t kt : TypeId} {d : TypeDesc} {et : TypeId} {z : Value} (h1 : P.underlying t = some (.map kt et)) (h2 : P.underlying kt = some d) (h : (P.info? et).map (fun i => i.zero) = some (some z)) : MapT P t kt d et z := by
 cases hi : P.info? et with
 | none => rw [hi] at h; cases h
 | some i => rw [hi] at h; exact ⟨h1, h2, ⟨i, hi, by simpa using h⟩⟩
def mE (l : List (Value × Value × Nat)) : Array MapEntry := (l.map fun x => { key := x.1, val := x.2.1, born := x.2.2 }).toArray
@[simp] theorem Jy (l : List (Value × Value × Nat)) : (mE l).size = l.length := by simp [mE]
@[simp] theorem Yd (l : List (Value × Value × Nat)) : (mE l).toList = l.map fun x => { key := x.1, val := x.2.1, born := x.2.2 } := by simp [mE]
def lkV (r : Option (Nat × Value)) (z : Value) (ok : Bool) : Value := match ok, r with
 | true, some (_, u) => .tuple #[u, .bool true]
 | true, none => .tuple #[z, .bool false]
 | false, some (_, u) => u
 | false, none => z
def J6 (d : TypeDesc) (k : Value) (l : List (Value × Value × Nat)) : Option (Option (Nat × Value)) := Instr.findNow d k (mE l).toList 0
theorem J8 {d : TypeDesc} {k : Value} (hk : MapKept.IsKey d k) {l : List (Value × Value × Nat)} (hl : ∀ x ∈ l, MapKept.IsKey d x.1) (h : ∀ x ∈ l, x.1 ≠ k) : J6 d k l = some none := by
 rcases MapKept.findNow_spec hk (mE l).toList 0 (fun x hx => by
  rw [Yd] at hx
  obtain ⟨y, hy, rfl⟩ := List.mem_map.1 hx
  exact hl y hy) with ⟨h1, _⟩ | ⟨j, e, _, h2, h3⟩
 ·exact h1
 ·rw [Yd, List.getElem?_map] at h2
  cases hj : l[j]? with
  | none => rw [hj] at h2; cases h2
  | some y =>
   rw [hj] at h2
   simp only [Option.map_some, Option.some.injEq] at h2
   subst h2
   exact absurd h3 (h y (List.mem_of_getElem? hj))
theorem U8 {d : TypeDesc} {k v : Value} {b i : Nat} (hk : MapKept.IsKey d k) {l : List (Value × Value × Nat)} (hl : ∀ x ∈ l, MapKept.IsKey d x.1) (h : l[i]? = some (k, v, b)) (hu : ∀ j, j < i → ∀ y, l[j]? = some y → y.1 ≠ k) : J6 d k l = some (some (i, v)) := by
 have aux : ∀ (l : List (Value × Value × Nat)) (i m : Nat), (∀ x ∈ l, MapKept.IsKey d x.1) → l[i]? = some (k, v, b) → (∀ j, j < i → ∀ y, l[j]? = some y → y.1 ≠ k) →
   Instr.findNow d k (l.map fun x => { key := x.1, val := x.2.1, born := x.2.2 }) m = some (some (m + i, v)) := by
  intro l
  induction l with
  | nil => intro i m _ h; simp at h
  | cons x l ih =>
   intro i m hl h hu
   obtain ⟨r, hr, hiff⟩ := MapKept.sameNow_of_keys hk (hl x (List.mem_cons_self ..))
   cases i with
   | zero =>
    simp only [List.getElem?_cons_zero, Option.some.injEq] at h
    subst h
    rw [hiff.2 rfl] at hr
    simp only [List.map_cons, Instr.findNow, hr, Nat.add_zero]
   | succ i =>
    have hne := hu 0 (by omega) x rfl
    cases r with
    | true => exact absurd (hiff.1 rfl).symm hne
    | false =>
     simp only [List.map_cons, Instr.findNow, hr]
     rw [ih i (m + 1) (fun y hy => hl y (List.mem_cons_of_mem _ hy)) (by simpa using h) (fun j hj y hy => hu (j + 1) (by omega) y (by simpa using hy))]
     congr 2; rw [Nat.add_assoc, Nat.add_comm 1 i]
 have := aux l i 0 hl h hu
 rw [Nat.zero_add] at this
 rw [J6, Yd]; exact this
section
variable {P : Program} {T : Tab} [hT : TabOk P T] {n : Nat} {os l : List Oper} {K : Kt} {F : Fm} {w g : World} {L : List HP} {t kt et : TypeId} {d : TypeDesc} {z : Value} {b c : Nat} {es : Array MapEntry}
theorem Zgn {o : Oper} (hg : o.guard = none) (ho : o.op = .makeMap t none) (Z : St g L w) (hk : ∀ b w', St g (ZN b (.map (mE []) 0) :: L) w' → WL P n os l K (Zy F o.dst (.map (some b))) w') : WL P n os (o :: l) K F w := by
 refine Zf2 hg (fun _ => ?_) (hk w.heap.size (w.alloc (.map #[] 0)) (Z.new _))
 simp [execOp, ho, Instr.makeMap, newObj]
 rfl
theorem Xf {k v : Value} {ok : Bool} {r : Option (Nat × Value)} (hM : MapT P t kt d et z) (hb : w.heap[b]? = some (.map es c)) (hk : MapKept.IsKey d k) (hf : Instr.findNow d k es.toList 0 = some r) (hv : lkV r z ok = v) : (Instr.lookup t (.map (some b)) k ok).run P w = .ok v w := by
 subst hv
 obtain ⟨i, i1, i2⟩ := hM.zero
 have hz : (zeroValue et).run P w = .ok z w := by simp [zeroValue, typeInfo, i1, i2]
 have h1 := MapKept.run_checkKey (w := w) hM.key hk es.isEmpty 9999
 have h2 := MapKept.run_findKey (w := w) hM.key hf
 unfold Instr.lookup
 simp only [Sem.run_bind, run_underlying hM.und, Result.andThen_ok, MapKept.run_getObj_map hb, Sem.run_pure, h1, h2]
 cases r with
 | none => cases ok <;> simp [hz, lkV]
 | some q => obtain ⟨j, u⟩ := q; cases ok <;> simp [lkV]
theorem Zgo {o : Oper} {x y : Operand} {ok : Bool} {k v : Value} {r : Option (Nat × Value)} (hg : o.guard = none) (ho : o.op = .lookup t x y ok) (hM : MapT P t kt d et z) (i : Nat) (Z : St g L w) (hi : L[i]? = some (ZN b (.map es c))) (hx : ev F x = .map (some b)) (hy : ev F y = k) (hkk : MapKept.IsKey d k) (hf : Instr.findNow d k es.toList 0 = some r) (hv : lkV r z ok = v)
  (hk : WL P n os l K (Zy F o.dst v) w) : WL P n os (o :: l) K F w := by
 refine Zf2 hg (fun hok => ?_) hk
 have e1 := Zc (F := F) hok (x := x) (by simp [ho, Op.operands])
 have e2 := Zc (F := F) hok (x := y) (by simp [ho, Op.operands])
 simp only [execOp, ho, e1, hx, e2, hy, Sem.run_bind, Xf hM (Z.heap i hi) hkk hf hv, Result.andThen_ok, Sem.run_pure]
theorem Zgw {o : Oper} {x y q : Operand} {k v : Value} {m : List (Value × Value × Nat)} (hg : o.guard = none) (hd : o.dst = none) (ho : o.op = .mapUpdate t x y q) (hM : MapT P t kt d et z) (i : Nat) (Z : St g L w) (hi : L[i]? = some (ZN b (.map (mE m) c))) (hx : ev F x = .map (some b)) (hy : ev F y = k) (hq : ev F q = v) (hkk : MapKept.IsKey d k) (hf : J6 d k m = some none)
  (hk : ∀ w', St g (L.set i (ZN b (.map (mE (m ++ [(k, v, c)])) (c + 1)))) w' → WL P n os l K F w') : WL P n os (o :: l) K F w := by
 have hb := Z.heap i hi
 have hS' := ((Z.at_ i hi).setObj (ob' := .map (mE (m ++ [(k, v, c)])) (c + 1))).back i hi
 refine Zgj hg hd (fun hok => ?_) (hk _ hS')
 have e1 := Zc (F := F) hok (x := x) (by simp [ho, Op.operands])
 have e2 := Zc (F := F) hok (x := y) (by simp [ho, Op.operands])
 have e3 := Zc (F := F) hok (x := q) (by simp [ho, Op.operands])
 have h1 := MapKept.run_checkKey (w := w) hM.key hkk false 9999
 have h2 := MapKept.run_findKey (w := w) hM.key hf
 have h3 : (mE m).push { key := k, val := v, born := c } = mE (m ++ [(k, v, c)]) := by simp [mE]
 have hr : (Instr.mapUpdate t (.map (some b)) k v).run P w = .ok () { w with heap := w.heap.setIfInBounds b (.map (mE (m ++ [(k, v, c)])) (c + 1)) } := by
  unfold Instr.mapUpdate
  simp only [Sem.run_bind, run_underlying hM.und, Result.andThen_ok, MapKept.run_getObj_map hb, h1, h2, h3, MapKept.run_setObj_map _ hb]
 simp only [execOp, ho, e1, hx, e2, hy, e3, hq, Sem.run_bind, hr, Result.andThen_ok, Sem.run_pure]
theorem Zhq {o : Oper} {x : Operand} (hg : o.guard = none) (ho : o.op = .call { callee := .builtin .len, args := #[x], argTypes := #[t] }) (hM : MapT P t kt d et z) (i : Nat) (Z : St g L w) (hi : L[i]? = some (ZN b (.map es c))) (hx : ev F x = .map (some b))
  (hk : WL P n os l K (Zy F o.dst (.int .i64 (es.size : Int))) w) : WL P n os (o :: l) K F w := by
 refine Zf2 hg (fun hok => ?_) hk
 have e1 := Zc (F := F) hok (x := x) (by simp [ho, Op.operands, Call.operands])
 have hr : (Builtin.len_ #[t] o.type #[.map (some b)]).run P w = .ok (.int .i64 (es.size : Int)) w := by
  simp [Builtin.len_, run_underlying hM.und, MapKept.run_getObj_map (Z.heap i hi), goInt]
 simp only [execOp, ho, resolve, invoke, builtin, Sem.run_bind, Sem.run_pure, Result.andThen_ok, List.map_toArray, List.map_cons, List.map_nil, e1, hx, hr]
end
section
variable {P : Program} {T : Tab} [hT : TabOk P T] {n : Nat} {os l : List Oper} {K : Kt} {F : Fm} {w : World}
theorem Qy (hos : XS n os = true) {o : Oper} {i d : Nat} {b : Bool} (hg : o.guard = some (i, b)) (hs : YD os i = some d) (hv : F d = undef) : Region.wanted o (yielded os.toArray (ZU n F).tmps) = false := by
 unfold Region.wanted
 simp only [hg]
 unfold YD at hs
 rw [Yo] at hs
 cases hj : os[i]? with
 | none => simp [hj] at hs
 | some oj =>
  simp only [hj] at hs
  have hlt : d < n := by
   have h1 := XZ os hos i oj hj
   simp only [QC, hs, okD, Bool.and_eq_true] at h1
   exact YL.1 h1.2
  simp [yielded, hj, hs, act_get? n F d hlt, hv, undef]
theorem Zhr {o : Oper} {i d : Nat} {b : Bool} (hg : o.guard = some (i, b)) (hs : YD os i = some d) (hv : F d = undef) (h : WL P n os l K (Zy F o.dst undef) w) : WL P n os (o :: l) K F w :=
 ⟨fun h1 h2 => by
  obtain ⟨_, h4⟩ := ZG h2
  have hw := Qy (F := F) h1 hg hs hv
  unfold wpList
  rw [if_neg (by rw [hw]; decide), ZZ]
  exact h.go h1 h4⟩
theorem Zgg {K : Fm → Prop} {o : Oper} {i d : Nat} {b : Bool} (hg : o.guard = some (i, b)) (hs : YD os i = some d) (hv : F d = undef) (h : WQ P n os l w K (Zy F o.dst undef)) : WQ P n os (o :: l) w K F :=
 ⟨fun h1 h2 => by
  obtain ⟨_, h4⟩ := ZG h2
  have hw := Qy (F := F) h1 hg hs hv
  unfold wpQuiet
  rw [if_neg (by rw [hw]; decide), ZZ]
  exact h.go h1 h4⟩
end
section
variable {P : Program} {T : Tab} [hT : TabOk P T] {n : Nat} {os l : List Oper} {F : Fm} {w : World}
omit hT in
theorem HF {sT dT e : TypeId} {a : Option Addr} {c : Nat} {bs : List Int} (hs : P.underlying sT = some (.slice e)) (hd : P.underlying dT = some .string) (he : P.underlying e = some (.int .u8)) (hsrc : Src w 1 (Za bs) a) (hb : B8 bs) : (convert sT dT (.slice a bs.length c)).run P w = .ok (.string (Y_ bs)) w := by
 by_cases h0 : bs = []
 ·subst h0
  cases a with
  | none => rw [run_convert_bytes_string w sT dT e none _ c hs he hd]; simp [Conv.bytesToString, Y_]; rfl
  | some ad =>
   have := run_convert_bytes_back (P := P) w sT dT e ad c [] hs he hd (fun j hj => by simp at hj)
   simpa [Y_] using this
 ·obtain ⟨⟨b, off, rfl⟩, hc⟩ := hsrc.rd (by rw [Zf]; exact List.length_pos_iff.2 h0)
  have hlen : (bs.map fun x => UInt8.ofNat x.toNat).length = bs.length := by simp
  have := run_convert_bytes_back (P := P) w sT dT e ⟨b, off, none⟩ c (bs.map fun x => UInt8.ofNat x.toNat) hs he hd (fun j hj => by
   have hj' : j < bs.length := by simpa using hj
   rw [show (⟨b, off, none⟩ : Addr).add j = ⟨b, off + j, none⟩ by unfold Addr.add; split <;> simp_all]
   have h5 := Xi (Za bs) 1 (Yj _).len j [.int .u8 bs[j]] 0 (ZA (List.getElem?_eq_getElem hj')) (by simp)
   simp only [Nat.mul_one, Nat.add_zero] at h5
   have h6 := hc j (.int .u8 bs[j]) (by rw [h5]; rfl)
   rw [show bo (some ⟨b, off, none⟩) = b from rfl, show oo (some ⟨b, off, none⟩) = off from rfl] at h6
   rw [h6]
   have h7 := hb bs[j] (List.getElem_mem hj')
   congr 2
   simp only [List.getElem_map, UInt8.toNat_ofNat']
   rw [show bs[j].toNat % 2 ^ 8 = bs[j].toNat from Nat.mod_eq_of_lt (by omega)]
   omega)
  rw [hlen] at this
  exact this
theorem Zhs {K : Fm → Prop} {o : Oper} {sT dT e : TypeId} {x : Operand} {a : Option Addr} {c : Nat} {bs : List Int} (hg : o.guard = none) (ho : o.op = .convert sT dT x) (hs : P.underlying sT = some (.slice e)) (hd : P.underlying dT = some .string) (he : P.underlying e = some (.int .u8)) (hsrc : ∀ m, Src (w.drewN m) 1 (Za bs) a) (hb : B8 bs) (hx : ev F x = .slice a (Za bs).length c)
  (hk : WQ P n os l w K (Zy F o.dst (.string (Y_ bs)))) : WQ P n os (o :: l) w K F := by
 rw [Zf] at hx
 refine Zgb hg (fun hok m => ?_) hk
 have e1 := Zc (F := F) hok (x := x) (by simp [ho, Op.operands])
 simp only [execOp, ho, e1, hx, Sem.run_bind, HF hs hd he (hsrc m) hb, Result.andThen_ok, Sem.run_pure]
theorem Zht {o : Oper} {sT dT e : TypeId} {x : Operand} {a : Option Addr} {c d : Nat} {bs : List Int} (hg : o.guard = none) (ho : o.op = .convert sT dT x) (hs : P.underlying sT = some (.slice e)) (hd : P.underlying dT = some .string) (he : P.underlying e = some (.int .u8)) (hsrc : ∀ m, Src (w.drewN m) 1 (Za bs) a) (hb : B8 bs) (hx : ev F x = .slice a (Za bs).length c)
  (hdd : o.dst = some d) (hfd : F d = .string (Y_ bs)) : RQ P n os w F o := by
 rw [Zf] at hx
 refine Zgc hg (fun hok m => ?_) hdd hfd
 have e1 := Zc (F := F) hok (x := x) (by simp [ho, Op.operands])
 simp only [execOp, ho, e1, hx, Sem.run_bind, HF hs hd he (hsrc m) hb, Result.andThen_ok, Sem.run_pure]
end
def YV (l : List Int) : List (List Value) := l.map fun x => [.int .u64 x]
@[simp] theorem CC (l : List Int) : (YV l).length = l.length := by simp [YV]
theorem Xz {l : List Int} {k : Nat} {x : Int} (h : l[k]? = some x) : (YV l)[k]? = some [.int .u64 x] := by simp [YV, h]
theorem Zau (l : List Int) : OkE 1 (YV l) := fun x hx => by
 obtain ⟨y, _, rfl⟩ := List.mem_map.1 hx
 exact ⟨rfl, fun u hu => by simp at hu; rcases hu with rfl <;> rfl⟩
def Buns {α : Type} (f : α → List HP) (zs : List α) : HP := ⟨fun o r => All (zs.flatMap f) o r, fun _ _ _ _ ho hr h => All.mono (zs.flatMap f) ho hr h⟩
section
variable {α : Type} {f : α → List HP} {zs : List α} {g w : World} {L : List HP}
theorem Buns.all {o r : Hp} (h : All (zs.flatMap f) o r) (M : List HP) {o2 : Hp} (hd : Dj o o2) {o' : Hp} (h1 : Sub o o') (h2 : Sub o2 o') (hM : All M o2 r) : All (Buns f zs :: M) o' r := ⟨o, o2, h1, h2, hd, h, hM⟩
end
end Go.V
namespace Go.V
open Go Go.RowKit
def oneB (P : Program) (e : TypeId) : Bool := (P.underlying e).isSome && !YR P e && (match P.info? e with | some i => i.size == 1 | none => false)
structure ArrT (P : Program) (t : TypeId) (m : Nat) (e : TypeId) : Prop where
 und : P.underlying t = some (.array m e)
 elem : oneB P e = true
section
variable {P : Program} {T : Tab} [hT : TabOk P T] {n : Nat} {os l : List Oper} {K : Kt} {F : Fm} {w : World} {t e : TypeId} {m : Nat} {z : Array Value}
theorem ArrT.one (h : ArrT P t m e) : (P.underlying e).isSome = true ∧ YR P e = false ∧ ∃ i, P.info? e = some i ∧ i.size = 1 := by
 have h1 := h.elem
 simp only [oneB, Bool.and_eq_true, Bool.not_eq_true'] at h1
 obtain ⟨⟨h2, h3⟩, h4⟩ := h1
 refine ⟨h2, h3, ?_⟩
 cases hi : P.info? e with
 | none => rw [hi] at h4; cases h4
 | some i => rw [hi] at h4; exact ⟨i, rfl, by simpa using h4⟩
end
end Go.V
namespace Go.V
open Go Go.RowKit Go.ChangeShapes Go.WideShapes
section
variable {H : Type} {enc : TypeId × Value → H} {P : Program}
def Rdc (enc : TypeId × Value → H) (P : Program) (w : World) (t : TypeId) (cs : List Value) : Prop := ∃ n x, DataW.trod enc P w 0 (fun _ => true) true n t cs = some x
variable {w : World} {t e : TypeId} {cs : List Value}
theorem Rdc.int {k : IntKind} (h : Rdc enc P w t cs) (ht : P.underlying t = some (.int k)) : ∃ n, cs = [.int k n] ∧ k.min ≤ n ∧ n ≤ k.max := by
 obtain ⟨m, x, hx⟩ := h
 obtain ⟨n, h1, _, h3⟩ := DataW.trod_int ht hx
 simp only [Lit.wf, Bool.and_eq_true, decide_eq_true_eq] at h3
 exact ⟨n, h1, h3.1, h3.2⟩
theorem Rdc.bool (h : Rdc enc P w t cs) (ht : P.underlying t = some .bool) : ∃ b, cs = [.bool b] := by
 obtain ⟨m, x, hx⟩ := h
 obtain ⟨b, h1, _⟩ := DataW.trod_bool ht hx
 exact ⟨b, h1⟩
theorem Rdc.str (h : Rdc enc P w t cs) (ht : P.underlying t = some .string) : ∃ s, cs = [.string s] ∧ s.size ≤ maxLen := by
 obtain ⟨m, x, hx⟩ := h
 obtain ⟨s, h1, _, h3⟩ := DataW.trod_string ht hx
 exact ⟨s, h1, h3⟩
theorem Rdc.struct {fs : Array Field} (h : Rdc enc P w t cs) (ht : P.underlying t = some (.struct fs)) : cs.length = P.cellsOf t ∧ ∀ (i : Nat) (f : Field), fs[i]? = some f → Rdc enc P w f.type ((cs.drop f.offset).take (P.cellsOf f.type)) := by
 obtain ⟨m, x, hx⟩ := h
 obtain ⟨xs, n, _, _, hl, hlen, hf⟩ := DataW.trod_struct ht hx
 refine ⟨hl, fun i f hi => ?_⟩
 have hlt : i < xs.length := by rw [hlen]; exact (Array.getElem?_eq_some_iff.1 hi).1
 exact ⟨n, xs[i], by rw [hf i f hi, List.getElem?_eq_getElem hlt]⟩
def Hw (w : World) (A : HP) : Prop := ∀ r : Hp, (∀ k, k < w.heap.size → r k = w.heap[k]?) → A.h (fun _ => none) r
theorem Hw.add {L : List HP} {A : HP} {w' : World} (h : Hw w A) (Z : St w L w') : St w (A :: L) w' := Z.add h
theorem Zca {Rp : List Value → Prop} {a : Addr} {len mm size : Nat} (hlc : len ≤ mm) (hel2 : ∀ i, i < len → ∃ cs' : List Value, w.cells? 0 (a.add (i * size)) size = some cs' ∧ Rp cs') (hp : 0 < size) (ho : ∀ x, Rp x → x.length = size ∧ ∀ u ∈ x, u.oneCell' = true) :
  ∃ ls : List (List Value), ls.length = len ∧ (∀ x ∈ ls, Rp x) ∧ ∀ e', Hw w (Sh e' size ls (some a) mm) := by
 obtain ⟨V, hV⟩ := Go.Deep.choose_lt (α := List Value) hel2
 have hlen : ((List.range len).map V).length = len := by simp
 have hrd : ∀ x ∈ (List.range len).map V, Rp x := fun x hx => by
  obtain ⟨i, hi, rfl⟩ := List.mem_map.1 hx
  exact (hV i (List.mem_range.1 hi)).2
 have hok : OkE size ((List.range len).map V) := fun x hx => ho x (hrd x hx)
 refine ⟨(List.range len).map V, hlen, hrd, fun _ r hr => ⟨hok, by rw [hlen]; exact hlc, fun hpos => ?_⟩⟩
 rw [hlen] at hpos
 have cell : ∀ j u, ((List.range len).map V).flatten[j]? = some u → w.cell? (a.add j) = some u := by
  intro j u hj
  have hjl : j < len * size := by
   have := (List.getElem?_eq_some_iff.1 hj).1
   rw [Zw _ _ hok.len, hlen] at this
   exact this
  have hd : j / size < len := Nat.div_lt_of_lt_mul (by rw [Nat.mul_comm]; exact hjl)
  have hm : j % size < size := Nat.mod_lt _ hp
  obtain ⟨q1, q2⟩ := hV (j / size) hd
  obtain ⟨_, s2, s3⟩ := World.cells?_some q1
  have hat := Xi ((List.range len).map V) size hok.len (j / size) (V (j / size)) (j % size) (by simp [hd]) (by rw [s2]; exact hm)
  have hdm : j / size * size + j % size = j := by rw [Nat.mul_comm]; exact Nat.div_add_mod j size
  rw [hdm, hj] at hat
  have h5 := s3 (j % size) hm
  rw [Go.Deep.add_add, hdm] at h5
  rw [h5, ← hat]
 have h0 : 0 < ((List.range len).map V).flatten.length := by rw [Zw _ _ hok.len, hlen]; exact Nat.mul_pos hpos hp
 have c0 := cell 0 _ (List.getElem?_eq_getElem h0)
 have ha0 : a.add 0 = a := rfl
 rw [ha0] at c0
 have hspot : a.spot = none := by
  unfold World.cell? at c0
  split at c0
  ·split at c0
   ·cases c0
   ·rename_i hs; cases hsp : a.spot with
    | none => rfl
    | some z => rw [hsp] at hs; simp at hs
  ·cases c0
 obtain ⟨b, off, spot⟩ := a
 simp only at hspot
 subst hspot
 cases hb : w.heap[b]? with
 | none => simp [World.cell?, hb] at c0
 | some ob =>
  cases ob with
  | cells cur t' fz =>
   have hblt : b < w.heap.size := (Array.getElem?_eq_some_iff.1 hb).1
   refine ⟨b, off, cur, t', fz, rfl, by rw [hr b hblt, hb], fun j u hj => ?_⟩
   have := cell j u hj
   rw [show (⟨b, off, none⟩ : Addr).add j = ⟨b, off + j, none⟩ by unfold Addr.add; split <;> simp_all, cell_of_row w b _ cur t' fz hb] at this
   exact this
  | _ => simp [World.cell?, hb] at c0
theorem Rdc.slice {size : Nat} (h : Rdc enc P w t cs) (ht : P.underlying t = some (.slice e)) (hc : P.cellsOf e = size) (hp : 0 < size) (ho : ∀ x, Rdc enc P w e x → x.length = size ∧ ∀ u ∈ x, u.oneCell' = true) :
  ∃ a c ls, cs = [.slice a ls.length c] ∧ ls.length ≤ maxLen ∧ (∀ x ∈ ls, Rdc enc P w e x) ∧ ∀ e', Hw w (Sh e' size ls a c) := by
 obtain ⟨m, x, hx⟩ := h
 rcases Go.Deep.open_slice ht hx with ⟨h1, _⟩ | ⟨a, len, cap, mm, n, D, Pl, h1, _, hlc, hcm, hmm, _, hel⟩
 ·exact ⟨none, 0, [], h1, Nat.zero_le _, (fun _ h => by cases h), fun _ _ _ => ⟨OkE.nil _, Nat.zero_le _, fun h => by simp at h⟩⟩
 ·simp only [if_true] at hmm
  subst hmm
  rw [hc] at hel
  have hel2 : ∀ i, i < len → ∃ cs' : List Value, w.cells? 0 (a.add (i * size)) size = some cs' ∧ Rdc enc P w e cs' := fun i hi => by
   obtain ⟨cs', q1, q2⟩ := hel i (by omega)
   exact ⟨cs', q1, n, _, q2⟩
  obtain ⟨ls, h2, h3, h4⟩ := Zca (w := w) (Rp := Rdc enc P w e) hlc hel2 hp ho
  exact ⟨some a, mm, ls, by rw [h2]; exact h1, by rw [h2]; omega, h3, h4⟩
theorem Ji {α β : Type} (f : α → β) (q : α → Prop) : ∀ (l : List β), (∀ x ∈ l, ∃ y, x = f y ∧ q y) → ∃ m : List α, l = m.map f ∧ ∀ y ∈ m, q y
 | [], _ => ⟨[], rfl, fun _ h => by cases h⟩
 | x :: l, h => by
  obtain ⟨y, rfl, hq⟩ := h x (List.mem_cons_self ..)
  obtain ⟨m, rfl, h2⟩ := Ji f q l fun z hz => h z (List.mem_cons_of_mem _ hz)
  exact ⟨y :: m, rfl, fun z hz => by
   rcases List.mem_cons.1 hz with rfl | hz
   ·exact hq
   ·exact h2 z hz⟩
theorem Trod.rdc {v : Value} {d : DataW H} {p : List MemPlace} (h : DataW.Trod enc P w 0 (fun _ => true) true t v d p) : Rdc enc P w t v.cells.toList := by
 obtain ⟨n, hn⟩ := h; exact ⟨n, _, hn⟩
def RdArgs (enc : TypeId × Value → H) (P : Program) (w : World) : List TypeId → List Value → Prop
 | [], [] => True
 | t :: ts, v :: vs => Rdc enc P w t v.cells.toList ∧ RdArgs enc P w ts vs
 | _, _ => False
theorem RdArgs.of : ∀ {ts : List TypeId} {vs : List Value} {ds : List (DataW H)} {p : List MemPlace}, DataW.TrodAll enc P w 0 (fun _ => true) true ts vs ds p → RdArgs enc P w ts vs
 | [], [], _, _, _ => trivial
 | _ :: _, _ :: _, _ :: _, _, ⟨_, _, h1, h2, _⟩ => ⟨Trod.rdc h1, RdArgs.of h2⟩
theorem TrodAll.len : ∀ {ts : List TypeId} {vs : List Value} {ds : List (DataW H)} {p : List MemPlace}, DataW.TrodAll enc P w 0 (fun _ => true) true ts vs ds p → ds.length = ts.length
 | [], [], [], _, _ => rfl
 | _ :: _, _ :: _, _ :: _, _, ⟨_, _, _, h2, _⟩ => by simp [TrodAll.len h2]
theorem TrodAll.stays (hl : laidOutB P = true) {W W' : World} (hb : Below W.heap.size W W') : ∀ {ts : List TypeId} {vs : List Value} {ds : List (DataW H)} {p : List MemPlace}, (∀ t ∈ ts, P.readableRec t = true ∧ t < P.types.size) →
  DataW.TrodAll enc P W 0 (fun _ => true) true ts vs ds p → (∀ x ∈ p, x.block < W.heap.size) → DataW.TrodAll enc P W' 0 (fun b => decide (b < W.heap.size)) true ts vs ds p
 | [], [], [], _, _, h, _ => h
 | t :: _, _ :: _, _ :: _, _, hr, ⟨_, _, h1, h2, e⟩, hlt => ⟨_, _, Below.trod hl (hr t (List.mem_cons_self ..)).1 (hr t (List.mem_cons_self ..)).2 h1 hb (fun x hx => hlt x (by rw [e]; exact List.mem_append_left _ hx)),
   TrodAll.stays hl hb (fun t ht => hr t (List.mem_cons_of_mem _ ht)) h2 (fun x hx => hlt x (by rw [e]; exact List.mem_append_right _ hx)), e⟩
theorem CP {f : Func} {s : ChangeSpec} {apart : Bool} {W W' : World} {args : Array Value} {ds gs : List (DataW H)} {before : List MemPlace} {tb : TypeId} (hvars : s.vars = [])
  (hW : DataW.Whole enc P f.params.toList s.vars apart W args.toList ds gs before) (hl : laidOutB P = true) (hr : ∀ t ∈ f.params.toList, P.readableRec t = true ∧ t < P.types.size)
  (hrt : f.resultTypes = #[tb]) (htb : P.underlying tb = some .bool) (hs : ds.length = f.params.size → (s.fn H (ds ++ [])).results = [.lit (.bool true)] ∧ (s.fn H (ds ++ [])).args = ds ∧ (s.fn H (ds ++ [])).vars = []) (hb : Below W.heap.size W W') :
  s.post enc P f apart true false false W args (.bool true) W' := by
 have hW0 := hW
 obtain ⟨p, q, hA, hV, rfl, hz, hn⟩ := hW
 have hlt : ∀ x ∈ p ++ q, x.block < W.heap.size := fun x hx => hW0.lt x hx
 rw [hvars] at hV
 obtain ⟨rfl, rfl⟩ := trodVars_none hV
 obtain ⟨s1, s2, s3⟩ := hs (by rw [TrodAll.len hA]; simp)
 have hst := TrodAll.stays hl hb hr hA (fun x hx => hlt x (List.mem_append_left _ hx))
 refine ⟨ds, [], p ++ [], [], p, [], hW0, ?_, ?_, ?_, ?_, fun h => by cases h⟩
 ·rw [s1, hrt]
  exact ⟨[], [], ⟨1, by simp [DataW.trod, htb, Value.cells]⟩, rfl, rfl⟩
 ·rw [s2]; exact hst
 ·rw [s3, hvars]; exact rfl
 ·exact hb.frame _
theorem Zao {r : Reach} {b : Nat} {k : IntKind} {v : Value} (h : Value.okWide P w r b t v) (ht : P.underlying t = some (.int k)) : v.cells.toList = [v] := by obtain ⟨n, rfl⟩ := okWide_int ht h; rfl
theorem D5 {r : Reach} {b : Nat} {v : Value} (h : Value.okWide P w r b t v) (ht : P.underlying t = some (.slice e)) : v.cells.toList = [v] := by obtain ⟨_, _, _, rfl⟩ := okWide_slice ht h; rfl
theorem HQ {v u : Value} (h : v.cells.toList = [v]) (h2 : v.cells.toList = [u]) : v = u := by
 rw [h] at h2; cases h2; rfl
def AOk (enc : TypeId × Value → H) (P : Program) (w : World) (base : Nat) : List TypeId → List Value → Prop
 | [], [] => True
 | t :: ts, v :: vs => (Value.okWide P w .any base t v ∧ Rdc enc P w t v.cells.toList) ∧ AOk enc P w base ts vs
 | _, _ => False
theorem AOk.of {base : Nat} : ∀ {ts : List TypeId} {vs : List Value}, RdArgs enc P w ts vs → (∀ (j : Nat) t v, ts[j]? = some t → vs[j]? = some v → Value.okWide P w .any base t v) → AOk enc P w base ts vs
 | [], [], _, _ => trivial
 | [], _ :: _, h, _ => h.elim
 | _ :: _, [], h, _ => h.elim
 | _ :: _, _ :: _, ⟨h1, h2⟩, hv => ⟨⟨hv 0 _ _ rfl rfl, h1⟩, AOk.of h2 fun j t v ht hj => hv (j + 1) t v (by simpa using ht) (by simpa using hj)⟩
theorem AOk.cons {base : Nat} {t : TypeId} {ts : List TypeId} {l : List Value} (h : AOk enc P w base (t :: ts) l) : ∃ v vs, l = v :: vs ∧ Value.okWide P w .any base t v ∧ Rdc enc P w t v.cells.toList ∧ AOk enc P w base ts vs := by
 cases l with
 | nil => exact h.elim
 | cons v vs => exact ⟨v, vs, rfl, h.1.1, h.1.2, h.2⟩
theorem AOk.nil {base : Nat} {l : List Value} (h : AOk enc P w base [] l) : l = [] := by
 cases l with
 | nil => rfl
 | cons v vs => exact h.elim
theorem AOk.args {base : Nat} {ts : Array TypeId} {args : Array Value} {ds : List (DataW H)} {p : List MemPlace} (hA : DataW.TrodAll enc P w 0 (fun _ => true) true ts.toList args.toList ds p)
  (hval : ∀ (j : Nat) t v, ts[j]? = some t → args[j]? = some v → Value.okWide P w .any base t v) : AOk enc P w base ts.toList args.toList :=
 AOk.of (RdArgs.of hA) fun j t v ht hj => hval j t v (by simpa using ht) (by simpa using hj)
theorem Dy {f : FuncId} {vs : List Value} {W : World} (h : Sp P f vs W (fun v w' => v = .bool true ∧ St W [] w')) : Calls P f vs.toArray W fun e W' => e = .returned (.bool true) ∧ Below W.heap.size W W' :=
 h.go.mono fun e W' ⟨v, he, hv, Z⟩ => by subst hv; exact ⟨he, Z.below⟩
end
end Go.V
namespace Go.V
open Go Go.RowKit
section
variable {P : Program} {T : Tab} [hT : TabOk P T] {n : Nat} {os l : List Oper} {K : Kt} {F : Fm} {w g : World} {L : List HP} {t kt et : TypeId} {d : TypeDesc} {z : Value} {b c : Nat}
theorem Zhu {K : Fm → Prop} {o : Oper} {x y : Operand} {ok : Bool} {k v : Value} {r : Option (Nat × Value)} {es : Array MapEntry} (hg : o.guard = none) (ho : o.op = .lookup t x y ok) (hM : MapT P t kt d et z) (i : Nat) (Z : St g L w) (hi : L[i]? = some (ZN b (.map es c))) (hx : ev F x = .map (some b)) (hy : ev F y = k) (hkk : MapKept.IsKey d k) (hf : Instr.findNow d k es.toList 0 = some r) (hv : lkV r z ok = v)
  (hk : WQ P n os l w K (Zy F o.dst v)) : WQ P n os (o :: l) w K F := by
 refine Zgb hg (fun hok mm => ?_) hk
 have e1 := Zc (F := F) hok (x := x) (by simp [ho, Op.operands])
 have e2 := Zc (F := F) hok (x := y) (by simp [ho, Op.operands])
 simp only [execOp, ho, e1, hx, e2, hy, Sem.run_bind, Xf hM ((Z.drewN mm).heap i hi) hkk hf hv, Result.andThen_ok, Sem.run_pure]
theorem Zhv {o : Oper} {x y : Operand} {ok : Bool} {k v : Value} {r : Option (Nat × Value)} {es : Array MapEntry} (hg : o.guard = none) (ho : o.op = .lookup t x y ok) (hM : MapT P t kt d et z) (i : Nat) (Z : St g L w) (hi : L[i]? = some (ZN b (.map es c))) (hx : ev F x = .map (some b)) (hy : ev F y = k) (hkk : MapKept.IsKey d k) (hf : Instr.findNow d k es.toList 0 = some r) (hv : lkV r z ok = v)
  {dd : Nat} (hdd : o.dst = some dd) (hfd : F dd = v) : RQ P n os w F o := by
 refine Zgc hg (fun hok mm => ?_) hdd hfd
 have e1 := Zc (F := F) hok (x := x) (by simp [ho, Op.operands])
 have e2 := Zc (F := F) hok (x := y) (by simp [ho, Op.operands])
 simp only [execOp, ho, e1, hx, e2, hy, Sem.run_bind, Xf hM ((Z.drewN mm).heap i hi) hkk hf hv, Result.andThen_ok, Sem.run_pure]
theorem Zgx {K : Fm → Prop} {o : Oper} {x : Operand} {es : Array MapEntry} (hg : o.guard = none) (ho : o.op = .call { callee := .builtin .len, args := #[x], argTypes := #[t] }) (hM : MapT P t kt d et z) (i : Nat) (Z : St g L w) (hi : L[i]? = some (ZN b (.map es c))) (hx : ev F x = .map (some b))
  (hk : WQ P n os l w K (Zy F o.dst (.int .i64 (es.size : Int)))) : WQ P n os (o :: l) w K F := by
 refine Zgb hg (fun hok mm => ?_) hk
 have e1 := Zc (F := F) hok (x := x) (by simp [ho, Op.operands, Call.operands])
 have hr : (Builtin.len_ #[t] o.type #[.map (some b)]).run P (w.drewN mm) = .ok (.int .i64 (es.size : Int)) (w.drewN mm) := by
  simp [Builtin.len_, run_underlying hM.und, MapKept.run_getObj_map ((Z.drewN mm).heap i hi), goInt]
 simp only [execOp, ho, resolve, invoke, builtin, Sem.run_bind, Sem.run_pure, Result.andThen_ok, List.map_toArray, List.map_cons, List.map_nil, e1, hx, hr]
end
end Go.V
