/-
  The engine, fourth part, no program: the judgements on lists of operations, on code, on functions, and their rules.
  Conditions: none; every fact is proved from the library's own definitions.
-/
import Derived.Test.YtenkmjbghbegfaaDoorSep
namespace Go.V
open Go Go.RowKit

inductive Ex where
  | nrm
  | ext (i : Nat)
  | ret
abbrev Qt := Ex → Fm → World → Prop
abbrev Kt := Fm → World → Prop
def lift (n : Nat) (Q : Qt) : Exit → Act → World → Prop
  | .normal, a, w => ∃ F, a = act n F ∧ Q .nrm F w
  | .exit i, a, w => ∃ F, a = act n F ∧ Q (.ext i) F w
  | .ret, a, w => ∃ F, a = act n F ∧ Q .ret F w
  | _, _, _ => False
def liftK (n : Nat) (K : Kt) : Exit → Act → World → Prop
  | .normal, a, w => ∃ F, a = act n F ∧ K F w
  | _, _, _ => False
/-- from frame F and world w the code runs and ends as Q says -/
structure WC (P : Program) (n : Nat) (c : Code) (Q : Qt) (F : Fm) (w : World) : Prop where
  go : okC n c = true → c.wp P (lift n Q) (act n F) w
/-- the same of a list of operations of the region os -/
structure WL (P : Program) (n : Nat) (os l : List Oper) (K : Kt) (F : Fm) (w : World) : Prop where
  go : okL n os = true → okL n l = true → wpList P os.toArray (liftK n K) l (act n F) w
/-- a list of operations that only read, in a region that draws its order -/
structure WQ (P : Program) (n : Nat) (os l : List Oper) (w : World) (K : Fm → Prop) (F : Fm) : Prop where
  go : okL n os = true → okL n l = true → wpQuiet P os.toArray (fun w' => ∃ m, w' = w.drewN m) (fun a => ∃ F, a = act n F ∧ K F) l (act n F)

/-- the least number that has a property -/
noncomputable def sInfI (p : Nat → Prop) : Nat := by
  classical
  exact if h : ∃ k, p k then Classical.choose (least h) else 0
where
  least {p : Nat → Prop} (h : ∃ k, p k) : ∃ k, p k ∧ ∀ j, p j → k ≤ j := by
    obtain ⟨k, hk⟩ := h
    induction k using Nat.strongRecOn with
    | _ k ih =>
      by_cases hx : ∃ j, j < k ∧ p j
      · obtain ⟨j, hj, hp⟩ := hx; exact ih j hj hp
      · exact ⟨k, hk, fun j hj => by
          rcases Nat.lt_or_ge j k with h | h
          · exact absurd ⟨j, h, hj⟩ hx
          · exact h⟩
theorem sInfI_mem {p : Nat → Prop} {k : Nat} (h : p k) : p (sInfI p) := by
  have hx : ∃ k, p k := ⟨k, h⟩
  unfold sInfI
  simp only [hx, dif_pos]
  exact (Classical.choose_spec (sInfI.least hx)).1
theorem sInfI_le {p : Nat → Prop} {k : Nat} (h : p k) : sInfI p ≤ k := by
  have hx : ∃ k, p k := ⟨k, h⟩
  unfold sInfI
  simp only [hx, dif_pos]
  exact (Classical.choose_spec (sInfI.least hx)).2 k h

abbrev sq (N : Kt) (Q : Qt) : Qt := fun e F w => match e with | .nrm => N F w | .ext i => Q (.ext i) F w | .ret => Q .ret F w
abbrev bl (id : Nat) (Q : Qt) : Qt := fun e F w => match e with | .nrm => Q .nrm F w | .ext i => bif Nat.beq i id then Q .nrm F w else Q (.ext i) F w | .ret => Q .ret F w

section
variable {P : Program} {n : Nat} {Q Q' : Qt} {F : Fm} {w : World}
theorem WC.mono {c : Code} (h : WC P n c Q F w) (hq : ∀ e F w, Q e F w → Q' e F w) : WC P n c Q' F w :=
  ⟨fun hok => wp_mono (h.go hok) fun e a w hh => by
    cases e <;> first | exact let ⟨F, ha, hF⟩ := hh; ⟨F, ha, hq _ _ _ hF⟩ | exact hh⟩
theorem WC.seq {a b : Code} (h : WC P n a (sq (fun F w => WC P n b Q F w) Q) F w) : WC P n (.seq a b) Q F w :=
  ⟨fun hok => by
    simp only [okC, Bool.and_eq_true] at hok
    refine wp_seq (wp_mono (h.go hok.1) fun e a w hh => ?_)
    cases e <;> first
      | exact hh
      | (obtain ⟨F, rfl, hF⟩ := hh; exact hF.go hok.2)⟩
theorem WC.skip (h : Q .nrm F w) : WC P n .skip Q F w := ⟨fun _ => wp_skip ⟨F, rfl, h⟩⟩
theorem WC.label {l : Nat} (h : Q .nrm F w) : WC P n (.label l) Q F w := ⟨fun _ => wp_label ⟨F, rfl, h⟩⟩
theorem WC.exit {i : Nat} (h : Q (.ext i) F w) : WC P n (.exit i) Q F w := ⟨fun _ => wp_exit ⟨F, rfl, h⟩⟩
theorem WC.ret (h : Q .ret F w) : WC P n .ret Q F w := ⟨fun _ => wp_ret ⟨F, rfl, h⟩⟩
theorem WC.block {id : Nat} {c : Code} (h : WC P n c (bl id Q) F w) : WC P n (.block id c) Q F w :=
  ⟨fun hok => wp_block (wp_mono (h.go hok) fun e a w hh => by
    cases e with
    | exit i =>
      obtain ⟨F, rfl, hF⟩ := hh
      unfold Exit.inBlock
      cases hb : Nat.beq i id with
      | true =>
        have := Nat.eq_of_beq_eq_true hb
        subst this
        simp only [bl, hb, cond_true] at hF
        first
          | exact ⟨F, rfl, hF⟩
          | (simp; exact ⟨F, rfl, hF⟩)
      | false =>
        simp only [bl, hb, cond_false] at hF
        have hne : i ≠ id := fun e => by subst e; simp at hb
        simp [hne]
        exact ⟨F, rfl, hF⟩
    | _ => exact hh)⟩
theorem WC.region {id : Nat} {os : List Oper} (h : WL P n os os (Q .nrm) F w) : WC P n (.region id os.toArray false) Q F w :=
  ⟨fun hok => by
    have hok' : okL n os = true := by simpa [okC] using hok
    refine wp_region_list ?_
    have := h.go hok' hok'
    have e : (liftK n (Q .nrm)) = (fun e a w => match e with | .normal => ∃ F, a = act n F ∧ Q .nrm F w | _ => False) := by
      funext e a w; cases e <;> rfl
    refine wpList_imp ?_ _ _ _ this
    intro e a w hh
    cases e <;> first | exact hh | exact hh.elim⟩
where
  wpList_imp {P : Program} {ops : Array Oper} {Q Q' : Exit → Act → World → Prop} (h : ∀ e a w, Q e a w → Q' e a w) : ∀ (l : List Oper) (a : Act) (w : World), wpList P ops Q l a w → wpList P ops Q' l a w
    | [], a, w, hh => h _ _ _ hh
    | o :: r, a, w, hh => by
      unfold wpList at hh ⊢
      split
      · rename_i hw
        rw [if_pos hw] at hh
        rcases hh with hh | ⟨h1, a', w', h2⟩
        · exact .inl (Oper.wp_mono (fun a' w' h' => wpList_imp h r a' w' h') (Plan.Oper.wp_monoQ (fun e a w _ => h e a w) hh))
        · exact .inr ⟨h1, a', w', h _ _ _ h2⟩
      · rename_i hw
        rw [if_neg hw] at hh
        exact wpList_imp h r _ _ hh

/-- a test: both ways -/
theorem WC.if_ {c : Operand} {x y : Code} {b : Bool} (hc : ev F c = .bool b) (h1 : b = true → WC P n x Q F w) (h0 : b = false → WC P n y Q F w) : WC P n (.cond c x y) Q F w :=
  ⟨fun hok => by
    simp only [okC, Bool.and_eq_true] at hok
    have e : (act n F).eval c = .bool b := by rw [act_eval hok.1.1]; exact hc
    cases b with
    | true => exact wp_cond_true e ((h1 rfl).go hok.1.2)
    | false => exact wp_cond_false e ((h0 rfl).go hok.2)⟩
theorem WC.ifP {c : Operand} {x y : Code} {p : Prop} [Decidable p] (hc : ev F c = .bool (decide p)) (h1 : p → WC P n x Q F w) (h0 : ¬ p → WC P n y Q F w) : WC P n (.cond c x y) Q F w :=
  WC.if_ hc (fun h => h1 (of_decide_eq_true h)) (fun h => h0 (of_decide_eq_false h))
theorem WC.ifT {c : Operand} {x y : Code} {b : Bool} (hc : ev F c = .bool b) (hb : b = true) (h : WC P n x Q F w) : WC P n (.cond c x y) Q F w := WC.if_ hc (fun _ => h) (fun h0 => by rw [hb] at h0; cases h0)
theorem WC.ifF {c : Operand} {x y : Code} {b : Bool} (hc : ev F c = .bool b) (hb : b = false) (h : WC P n y Q F w) : WC P n (.cond c x y) Q F w := WC.if_ hc (fun h0 => by rw [hb] at h0; cases h0) (fun _ => h)

theorem WC.reb {c : Code} (d : Nat) (v : Value) (h : F d = v) (hk : WC P n c Q (upd F d v) w) : WC P n c Q F w := by rw [rebase h] at hk; exact hk

/-! ### the frame with but some of its slots known -/
def updl (g : Fm) : List Nat → List Value → Fm
  | d :: ds, v :: vs => upd (updl g ds vs) d v
  | _, _ => g
def vals (F : Fm) : List Nat → List Value
  | [] => []
  | d :: ds => F d :: vals F ds
theorem updl_vals (F : Fm) : ∀ ds, updl F ds (vals F ds) = F
  | [] => rfl
  | d :: ds => by simp only [updl, vals, updl_vals F ds]; exact upd_self F d
theorem updl_at (F : Fm) (ds : List Nat) (vs : List Value) (h : vals F ds = vs) : updl F ds vs = F := by subst h; exact updl_vals F ds

/-- forget all slots but some -/
theorem WC.keep {c : Code} (ds : List Nat) (vs : List Value) (h : vals F ds = vs) (hk : ∀ g, WC P n c Q (updl g ds vs) w) : WC P n c Q F w := by
  have := hk F
  rw [updl_at F ds vs h] at this
  exact this
/-- the ways through c meet again: what is known there -/
theorem WC.cut {c : Code} {N : Kt} (ds : List Nat) (J : List Value → World → Prop) (h : WC P n c (sq (fun F w => J (vals F ds) w) Q) F w) (hk : ∀ vs w g, J vs w → N (updl g ds vs) w) : WC P n c (sq N Q) F w :=
  h.mono fun e F w hh => by
    cases e with
    | nrm => have := hk _ w F hh; rw [updl_vals] at this; exact this
    | _ => exact hh
/-- a loop: `I k vs w` holds at its head, k goes down, vs are the values of the slots ds -/
theorem WC.loop {c : Code} (ds : List Nat) (I : Nat → List Value → World → Prop) (k : Nat) (h0 : I k (vals F ds) w)
    (hr : ∀ k vs w g, I k vs w → WC P n c (sq (fun F' w' => ∃ m, m < k ∧ I m (vals F' ds) w') Q) (updl g ds vs) w) : WC P n (.loop c) Q F w := by
  refine ⟨fun hok => ?_⟩
  have hok' : okC n c = true := by simpa [okC] using hok
  have key : ∀ k F w, I k (vals F ds) w → (Code.loop c).wp P (lift n Q) (act n F) w := by
    intro k F w hI
    refine wp_loop (fun a w => ∃ k F, a = act n F ∧ I k (vals F ds) w) (fun a w => sInfI (fun k => ∃ F, a = act n F ∧ I k (vals F ds) w)) ⟨k, F, rfl, hI⟩ ?_
    rintro a w ⟨k0, F0, ha0, hI0⟩
    obtain ⟨F1, ha1, hI1⟩ := sInfI_mem (p := fun k => ∃ F, a = act n F ∧ I k (vals F ds) w) (k := k0) ⟨F0, ha0, hI0⟩
    have h1 := (hr _ _ w F1 hI1).go hok'
    rw [updl_vals, ← ha1] at h1
    refine wp_mono h1 fun e a' w' hh => ?_
    cases e <;> first
      | exact hh
      | (obtain ⟨F2, rfl, m, hm, hI2⟩ := hh
         exact ⟨⟨m, F2, rfl, hI2⟩, Nat.lt_of_le_of_lt (sInfI_le (p := fun k => ∃ F, act n F2 = act n F ∧ I k (vals F ds) w') ⟨F2, rfl, hI2⟩) hm⟩)
  exact key k F w h0
end

/-! ### operations -/
section
variable {P : Program} {T : Tab} [hT : TabOk P T] {n : Nat} {os l : List Oper} {K : Kt} {F : Fm} {w : World}

theorem WL.nil (h : K F w) : WL P n os [] K F w := ⟨fun _ _ => ⟨F, rfl, h⟩⟩
theorem WL.reb (d : Nat) (v : Value) (h : F d = v) (hk : WL P n os l K (upd F d v) w) : WL P n os l K F w := by rw [rebase h] at hk; exact hk
theorem WL.keep (ds : List Nat) (vs : List Value) (h : vals F ds = vs) (hk : ∀ g, WL P n os l K (updl g ds vs) w) : WL P n os l K F w := by
  have := hk F
  rw [updl_at F ds vs h] at this
  exact this
/-- a number that did not wrap -/
theorem WL.nw (d : Nat) {k : IntKind} {z : Int} (h : F d = .int k (k.wrap z)) (hz : k.wrap z = z) (hk : WL P n os l K (upd F d (.int k z)) w) : WL P n os l K F w := WL.reb d _ (by rw [h, hz]) hk
theorem WQ.reb {K : Fm → Prop} (d : Nat) (v : Value) (h : F d = v) (hk : WQ P n os l w K (upd F d v)) : WQ P n os l w K F := by rw [rebase h] at hk; exact hk
theorem WQ.nw {K : Fm → Prop} (d : Nat) {k : IntKind} {z : Int} (h : F d = .int k (k.wrap z)) (hz : k.wrap z = z) (hk : WQ P n os l w K (upd F d (.int k z))) : WQ P n os l w K F := WQ.reb d _ (by rw [h, hz]) hk
/-- a Bool as a proposition -/
theorem WL.prop (d : Nat) {b : Bool} {p : Prop} [Decidable p] (h : F d = .bool b) (hp : b = decide p) (hk : WL P n os l K (upd F d (.bool (decide p))) w) : WL P n os l K F w := WL.reb d _ (by rw [h, hp]) hk
theorem WQ.prop {K : Fm → Prop} (d : Nat) {b : Bool} {p : Prop} [Decidable p] (h : F d = .bool b) (hp : b = decide p) (hk : WQ P n os l w K (upd F d (.bool (decide p)))) : WQ P n os l w K F := WQ.reb d _ (by rw [h, hp]) hk
/-- k operations that compute or read cells; vs: what the cells hold -/
theorem WL.run (k : Nat) (vs : List Value) {l' : List Oper} {F' : Fm} {ob : List (Addr × Value)} (h : Go.V.run T k l vs F = some (l', F', ob)) (hob : obs w ob) (hk : WL P n os l' K F' w) : WL P n os l K F w :=
  ⟨fun h1 h2 => LW.runs LW.list k l vs F l' F' ob h h2 hob (hk.go h1 (run_okL k l vs F l' F' ob h h2))⟩
theorem WL.r (k : Nat) {l' : List Oper} {F' : Fm} (h : Go.V.run T k l [] F = some (l', F', [])) (hk : WL P n os l' K F' w) : WL P n os l K F w := WL.run k [] h trivial hk
/-- the same where some hang on guards; what hangs on a guard is forgotten -/
theorem WL.runG (k : Nat) (vs : List Value) {l' : List Oper} {F' : Fm} {D : DD} {ob : List (Prop × Addr × Value)} (h : Go.V.runG T os k l vs F D0 [] = some (l', F', D, ob)) (hob : obsG w ob)
    (hk : ∀ j, WL P n os l' K (ovr D F' j) w) : WL P n os l K F w :=
  ⟨fun h1 h2 => LW.runsG h1 LW.list k l vs F D0 [] F l' F' D ob h h2 (obsG_mem ob hob) ⟨fun _ _ => rfl, fun _ h => absurd trivial h, fun _ _ _ h => by cases h⟩
    (fun j => (hk j).go h1 (runG_okL os k l vs F D0 [] l' F' D ob h h2))⟩
theorem WL.rG (k : Nat) {l' : List Oper} {F' : Fm} {D : DD} (h : Go.V.runG T os k l [] F D0 [] = some (l', F', D, [])) (hk : ∀ j, WL P n os l' K (ovr D F' j) w) : WL P n os l K F w := WL.runG k [] h trivial hk
theorem WQ.nil {K : Fm → Prop} (h : K F) : WQ P n os [] w K F := ⟨fun _ _ => ⟨F, rfl, h⟩⟩
theorem WQ.run {K : Fm → Prop} (k : Nat) (vs : List Value) {l' : List Oper} {F' : Fm} {ob : List (Addr × Value)} (h : Go.V.run T k l vs F = some (l', F', ob)) (hob : obs w ob) (hk : WQ P n os l' w K F') : WQ P n os l w K F :=
  ⟨fun h1 h2 => LW.runs LW.quiet k l vs F l' F' ob h h2 hob (hk.go h1 (run_okL k l vs F l' F' ob h h2))⟩
theorem WQ.r {K : Fm → Prop} (k : Nat) {l' : List Oper} {F' : Fm} (h : Go.V.run T k l [] F = some (l', F', [])) (hk : WQ P n os l' w K F') : WQ P n os l w K F := WQ.run k [] h trivial hk
theorem WQ.runG {K : Fm → Prop} (k : Nat) (vs : List Value) {l' : List Oper} {F' : Fm} {D : DD} {ob : List (Prop × Addr × Value)} (h : Go.V.runG T os k l vs F D0 [] = some (l', F', D, ob)) (hob : obsG w ob)
    (hk : ∀ j, WQ P n os l' w K (ovr D F' j)) : WQ P n os l w K F :=
  ⟨fun h1 h2 => LW.runsG h1 LW.quiet k l vs F D0 [] F l' F' D ob h h2 (obsG_mem ob hob) ⟨fun _ _ => rfl, fun _ h => absurd trivial h, fun _ _ _ h => by cases h⟩
    (fun j => (hk j).go h1 (runG_okL os k l vs F D0 [] l' F' D ob h h2))⟩
theorem WQ.rG {K : Fm → Prop} (k : Nat) {l' : List Oper} {F' : Fm} {D : DD} (h : Go.V.runG T os k l [] F D0 [] = some (l', F', D, [])) (hk : ∀ j, WQ P n os l' w K (ovr D F' j)) : WQ P n os l w K F := WQ.runG k [] h trivial hk

/-- an operation that yields v and leaves w' -/
theorem WL.val {o : Oper} {v : Value} {w' : World} (hg : o.guard = none) (hr : okO n o = true → (execOp (act n F).eval o).run P w = .ok (.value v) w') (hk : WL P n os l K (updo F o.dst v) w') : WL P n os (o :: l) K F w :=
  ⟨fun h1 h2 => by
    obtain ⟨h3, h4⟩ := okL_cons h2
    unfold wpList
    rw [if_pos (by simp [Region.wanted, hg])]
    refine .inl ?_
    unfold Oper.wp
    rw [hr h3, Oper.upon_value, act_put]
    exact hk.go h1 h4⟩
theorem WL.unit {o : Oper} {w' : World} (hg : o.guard = none) (hd : o.dst = none) (hr : okO n o = true → (execOp (act n F).eval o).run P w = .ok .skip w') (hk : WL P n os l K F w') : WL P n os (o :: l) K F w :=
  ⟨fun h1 h2 => by
    obtain ⟨h3, h4⟩ := okL_cons h2
    unfold wpList
    rw [if_pos (by simp [Region.wanted, hg])]
    refine .inl ?_
    unfold Oper.wp
    rw [hr h3, Oper.upon_skip, hd]
    exact hk.go h1 h4⟩

theorem w64 {z : Int} (h : -9223372036854775808 ≤ z ∧ z ≤ 9223372036854775807) : IntKind.i64.wrap z = z := by rw [IntKind.wrap_i64]; omega
theorem wu64 {z : Int} (h : 0 ≤ z ∧ z ≤ 18446744073709551615) : IntKind.u64.wrap z = z := by
  unfold IntKind.wrap; simp [IntKind.bits, IntKind.signed]; omega
theorem wu32 {z : Int} (h : 0 ≤ z ∧ z ≤ 4294967295) : IntKind.u32.wrap z = z := by
  unfold IntKind.wrap; simp [IntKind.bits, IntKind.signed]; omega
theorem wu8 {z : Int} (h : 0 ≤ z ∧ z ≤ 255) : IntKind.u8.wrap z = z := by
  unfold IntKind.wrap; simp [IntKind.bits, IntKind.signed]; omega
theorem dd (p : Prop) [Decidable p] : decide p = decide p := rfl
theorem dv (b : Bool) : b = decide (b = true) := by simp
theorem band {b c : Bool} {p q : Prop} [Decidable p] [Decidable q] (h : b = decide p) (k : c = decide q) : (bif b then c else false) = decide (p ∧ q) := by subst h; subst k; by_cases hp : p <;> simp [hp]
theorem bor {b c : Bool} {p q : Prop} [Decidable p] [Decidable q] (h : b = decide p) (k : c = decide q) : (bif b then true else c) = decide (p ∨ q) := by subst h; subst k; by_cases hp : p <;> simp [hp]
theorem bnot {b : Bool} {p : Prop} [Decidable p] (h : b = decide p) : (!b) = decide (¬ p) := by subst h; by_cases hp : p <;> simp [hp]
theorem bif_and (p q : Prop) [Decidable p] [Decidable q] : (bif decide p then decide q else false) = decide (p ∧ q) := by by_cases hp : p <;> simp [hp]
theorem bif_or (p q : Prop) [Decidable p] [Decidable q] : (bif decide p then true else decide q) = decide (p ∨ q) := by by_cases hp : p <;> simp [hp]

/-! ### functions -/
def Rt (Ψ : Value → World → Prop) : Ending → World → Prop := fun e w => ∃ v, e = .returned v ∧ Ψ v w
def CF (P : Program) (f : FuncId) : Prop := ∃ fn c, P.funcs[f]? = some fn ∧ (fn.name == "runtime.NumGoroutine") = false ∧ fn.body = some c
/-- called with vs in world w function f returns a v and leaves a world as Ψ says -/
structure Sp (P : Program) (f : FuncId) (vs : List Value) (w : World) (Ψ : Value → World → Prop) : Prop where
  cf : CF P f
  go : Calls P f vs.toArray w (Rt Ψ)
theorem Sp.mono {f : FuncId} {vs : List Value} {Ψ Ψ' : Value → World → Prop} (h : Sp P f vs w Ψ) (hh : ∀ v w, Ψ v w → Ψ' v w) : Sp P f vs w Ψ' :=
  ⟨h.cf, h.go.mono fun _ _ ⟨v, he, hv⟩ => ⟨v, he, hh _ _ hv⟩⟩
def evs (F : Fm) : List Operand → List Value
  | [] => []
  | x :: r => ev F x :: evs F r
theorem evs_eq : ∀ (l : List Operand), evs F l = l.map (ev F)
  | [] => rfl
  | x :: r => by simp [evs, evs_eq r]
theorem run_call {o : Oper} {f : FuncId} {xs : List Operand} {ts : Array TypeId} (ho : o.op = .call { callee := .value (.func f), args := xs.toArray, argTypes := ts }) (hok : okO n o = true) (hcf : CF P f) :
    (execOp (act n F).eval o).run P w = .ok (.enter f (evs F xs).toArray) w := by
  obtain ⟨fn, c, h1, h2, h3⟩ := hcf
  have e : xs.toArray.map (act n F).eval = (evs F xs).toArray := by
    rw [evs_eq]
    rw [List.map_toArray]
    congr 1
    refine List.map_congr_left fun x hx => ?_
    exact okX_of hok (by simp [ho, Op.operands, Call.operands, hx])
  have hf : (act n F).eval (.func f) = .func (.func f) #[] #[] := rfl
  simp only [execOp, ho, resolve, e, hf, Deferred.ofValue, Sem.run_bind, Sem.run_pure, Result.andThen_ok, invoke, Array.empty_append, Array.append_empty]
  have h2' : ¬ fn.name = "runtime.NumGoroutine" := by simpa using h2
  simp [callFunc, h1, h2', h3]
theorem WL.call {o : Oper} {f : FuncId} {xs : List Operand} {ts : Array TypeId} {vs : List Value} {Ψ : Value → World → Prop} (hg : o.guard = none) (ho : o.op = .call { callee := .value (.func f), args := xs.toArray, argTypes := ts }) (hs : Sp P f vs w Ψ) (hv : evs F xs = vs)
    (hk : ∀ v w', Ψ v w' → WL P n os l K (updo F o.dst v) w') : WL P n os (o :: l) K F w :=
  ⟨fun h1 h2 => by
    obtain ⟨h3, h4⟩ := okL_cons h2
    unfold wpList
    rw [if_pos (by simp [Region.wanted, hg])]
    refine .inl ?_
    unfold Oper.wp
    rw [run_call ho h3 hs.cf, Oper.upon_enter, hv]
    refine hs.go.mono ?_
    rintro e w' ⟨v, rfl, hΨ⟩
    simp only [act_put]
    exact (hk v w' hΨ).go h1 h4⟩

def tup : List Value → Value
  | [v] => v
  | vs => .tuple vs.toArray
def rsOk (P : Program) (F : Fm) (w : World) : List ResultVar → List Value → Prop
  | [], [] => True
  | [.tmp t], [v] => F t = v
  | .tmp t :: r, v :: vs => F t = v ∧ rsOk P F w r vs
  | .cell a t :: r, v :: vs => (∃ p, F a = .pointer (some p) ∧ (loadVar t p).run P w = .ok v w) ∧ rsOk P F w r vs
  | _, _ => False
def okR (n : Nat) : List ResultVar → Bool
  | [] => true
  | .tmp t :: r => Nat.blt t n && okR n r
  | .cell a _ :: r => Nat.blt a n && okR n r
theorem rsOk_cons {F : Fm} {w : World} {t : Nat} {r : List ResultVar} {v : Value} {vs : List Value} (h : rsOk P F w (.tmp t :: r) (v :: vs)) : F t = v ∧ rsOk P F w r vs := by
  cases r with
  | nil =>
    cases vs with
    | nil => exact ⟨h, trivial⟩
    | cons => exact h
  | cons => exact h
theorem run_mapM {α β : Type} (f : α → Sem β) (w : World) : ∀ (l : List α) (vs : List β), l.length = vs.length → (∀ (i : Nat) (x : α) (v : β), l[i]? = some x → vs[i]? = some v → (f x).run P w = .ok v w) → (l.mapM f).run P w = .ok vs w
  | [], [], _, _ => by simp
  | [], _ :: _, h, _ => by simp at h
  | _ :: _, [], h, _ => by simp at h
  | x :: l, v :: vs, h, hh => by
    have h0 := hh 0 x v rfl rfl
    have ih := run_mapM f w l vs (by simpa using h) (fun i x v hx hv => hh (i + 1) x v (by simpa using hx) (by simpa using hv))
    simp only [List.mapM_cons, Sem.run_bind, h0, ih, Result.andThen_ok, Sem.run_pure]
def resF (tmps : Array Value) : ResultVar → Sem Value := fun
  | .tmp t => pure (tmps.getD t undef)
  | .cell a t => do loadVar t (← asAddr (tmps.getD a undef))
theorem rsOk_run {F : Fm} {w : World} : ∀ (rs : List ResultVar) (vs : List Value), okR n rs = true → rsOk P F w rs vs → rs.length = vs.length ∧ ∀ (i : Nat) (x : ResultVar) (v : Value), rs[i]? = some x → vs[i]? = some v →
    (resF (act n F).tmps x).run P w = .ok v w
  | [], [], _, _ => ⟨rfl, fun i x v h => by simp at h⟩
  | [], _ :: _, _, h => by simp [rsOk] at h
  | .tmp t :: r, [], _, h => by cases r <;> simp [rsOk] at h
  | .cell a t :: r, [], _, h => by simp [rsOk] at h
  | .tmp t :: r, v :: vs, hok, h => by
    simp only [okR, Bool.and_eq_true] at hok
    obtain ⟨h1, h2⟩ := rsOk_cons h
    obtain ⟨q1, q2⟩ := rsOk_run r vs hok.2 h2
    refine ⟨by simp [q1], fun i x v' hx hv => ?_⟩
    cases i with
    | zero =>
      simp at hx hv; subst hx; subst hv
      simp only [resF, act_get n F t (blt_iff.1 hok.1), h1, Sem.run_pure]
    | succ i => exact q2 i x v' (by simpa using hx) (by simpa using hv)
  | .cell a t :: r, v :: vs, hok, h => by
    simp only [okR, Bool.and_eq_true] at hok
    obtain ⟨⟨p, h1, h1'⟩, h2⟩ := h
    obtain ⟨q1, q2⟩ := rsOk_run r vs hok.2 h2
    refine ⟨by simp [q1], fun i x v' hx hv => ?_⟩
    cases i with
    | zero =>
      simp at hx hv; subst hx; subst hv
      simp only [resF, act_get n F a (blt_iff.1 hok.1), h1]
      simp [asAddr, h1']
    | succ i => exact q2 i x v' (by simpa using hx) (by simpa using hv)
theorem run_results {fn : Func} {F : Fm} {w : World} {vs : List Value} (hok : okR n fn.results.toList = true) (h : rsOk P F w fn.results.toList vs) : (results fn (act n F).tmps).run P w = .ok (tup vs) w := by
  obtain ⟨h1, h2⟩ := rsOk_run (n := n) _ _ hok h
  have h3 := run_mapM (P := P) (resF (act n F).tmps) w _ _ h1 (fun i x v hx hv => h2 i x v hx hv)
  have e : results fn (act n F).tmps = (do let vs ← fn.results.mapM (resF (act n F).tmps); pure (if h : vs.size = 1 then vs[0] else .tuple vs)) := rfl
  have e2 : fn.results = fn.results.toList.toArray := by simp
  rw [e, e2, List.mapM_toArray]
  simp only [Sem.run_bind, Sem.run_map, h3, Result.andThen_ok, Sem.run_pure]
  cases vs with
  | nil => simp [tup]
  | cons v r => cases r <;> simp [tup]
end
end Go.V
