/-
  The engine, second part, no program: runs of operations that only compute or read known cells, guards included; lists of operations; code.
  Conditions: none; every fact is proved from the library's own definitions.
-/
import Derived.Test.YtenkmjbghbegfaaDoorCore
namespace Go.V
open Go

/-! ### plain runs -/
def ldO (T : Tab) (o : Oper) (F : Fm) : Option Addr := match o.op with
  | .load t x => match ev F x with | .pointer (some a) => bif mem T.ones t then some a else none | _ => none
  | _ => none
def run (T : Tab) : Nat → List Oper → List Value → Fm → Option (List Oper × Fm × List (Addr × Value))
  | 0, l, _, F => some (l, F, [])
  | _ + 1, [], _, F => some ([], F, [])
  | k + 1, o :: r, vs, F => match o.guard with
    | some _ => none
    | none => match ldO T o F with
      | some a => match vs with
        | [] => none
        | v :: vs' => match run T k r vs' (updo F o.dst v) with
          | some (l, F', ob) => some (l, F', (a, v) :: ob)
          | none => none
      | none => match pv T o F with
        | some v => run T k r vs (updo F o.dst v)
        | none => none
def obs (w : World) : List (Addr × Value) → Prop
  | [] => True
  | [(a, v)] => w.cell? a = some v
  | (a, v) :: r => w.cell? a = some v ∧ obs w r
theorem obs_cons {w : World} {a : Addr} {v : Value} {r : List (Addr × Value)} (h : obs w ((a, v) :: r)) : w.cell? a = some v ∧ obs w r := by
  cases r with
  | nil => exact ⟨h, trivial⟩
  | cons b r => exact h

section
variable {P : Program} {T : Tab} [hT : TabOk P T] {n : Nat}

theorem ldO_ok {o : Oper} {F : Fm} {a : Addr} {v : Value} {w : World} (h : ldO T o F = some a) (hok : okO n o = true) (hc : w.cell? a = some v) : (execOp (act n F).eval o).run P w = .ok (.value v) w := by
  obtain ⟨dst, op, ty, pos, after, guard⟩ := o
  unfold ldO at h
  cases op <;> simp only [reduceCtorEq] at h
  case load t x =>
    have e := okX_of (F := F) hok (x := x) (by simp [Op.operands])
    split at h
    · rename_i a' hx
      cases hm : mem T.ones t with
      | false => simp [hm] at h
      | true =>
        simp only [hm, cond_true, Option.some.injEq] at h
        subst h
        obtain ⟨h1, h2, h3⟩ := Tab.one (P := P) hm
        have hl : (load a').run P w = .ok v w := by simp [load, Sem.run, hc]
        simp only [execOp, e, hx, Instr.loadAt, Instr.sureAddr, loadVar, Sem.run_bind, Sem.run_pure, Result.andThen_ok, run_isAgg w h1, h2, Bool.false_eq_true, if_false, hl]
    · cases h

theorem okL_cons {o : Oper} {r : List Oper} (h : okL n (o :: r) = true) : okO n o = true ∧ okL n r = true := by
  simpa [okL] using h

theorem run_okL : ∀ (k : Nat) (l : List Oper) (vs : List Value) (F : Fm) (l' : List Oper) (F' : Fm) (ob : List (Addr × Value)), run T k l vs F = some (l', F', ob) → okL n l = true → okL n l' = true := by
  intro k
  induction k with
  | zero => intro l vs F l' F' ob h hok; simp [run] at h; obtain ⟨rfl, _⟩ := h; exact hok
  | succ k ih =>
    intro l vs F l' F' ob h hok
    cases l with
    | nil => simp [run] at h; obtain ⟨rfl, _⟩ := h; rfl
    | cons o r =>
      obtain ⟨_, h2⟩ := okL_cons hok
      simp only [run] at h
      split at h
      · cases h
      · split at h
        · split at h
          · cases h
          · split at h
            · rename_i hh
              simp only [Option.some.injEq, Prod.mk.injEq] at h
              obtain ⟨rfl, rfl, rfl⟩ := h
              exact ih _ _ _ _ _ _ hh h2
            · cases h
        · split at h
          · exact ih _ _ _ _ _ _ h h2
          · cases h

end

/-! ### runs with guards: every operation is taken as carried out; what hangs on a guard is forgotten at the end -/
abbrev DD := Nat → List (Nat × Bool)
def updD (D : DD) (d : Nat) (c : List (Nat × Bool)) : DD := fun t => bif Nat.beq t d then c else D t
def memC : List (Nat × Bool) → Nat → Bool → Bool
  | [], _, _ => false
  | (t, b) :: r, s, c => bif Nat.beq t s && (b == c) then true else memC r s c
def subC : List (Nat × Bool) → List (Nat × Bool) → Bool
  | [], _ => true
  | (s, b) :: r, c => memC c s b && subC r c
def okG (D : DD) (c : List (Nat × Bool)) (x : Operand) : Bool := match x with | .tmp t => subC (D t) c | _ => true
def okGs (D : DD) (c : List (Nat × Bool)) : List Operand → Bool
  | [] => true
  | x :: r => okG D c x && okGs D c r
/-- does the condition hold? -/
def Hc (G : Fm) : List (Nat × Bool) → Prop
  | [] => True
  | (s, b) :: r => G s = .bool b ∧ Hc G r
def obsG (w : World) : List (Prop × Addr × Value) → Prop
  | [] => True
  | [p] => p.1 → w.cell? p.2.1 = some p.2.2
  | p :: r => (p.1 → w.cell? p.2.1 = some p.2.2) ∧ obsG w r
/-- what both kinds of walks over a list of operations have in common -/
structure LW (P : Program) (ops : Array Oper) (w : World) (W : List Oper → Act → Prop) : Prop where
  yes : ∀ o r a v, Region.wanted o (yielded ops a.tmps) = true → (∀ w', (∀ b, w'.cell? b = w.cell? b) → (execOp a.eval o).run P w' = .ok (.value v) w') → W r (a.put o.dst v) → W (o :: r) a
  no : ∀ o r a, Region.wanted o (yielded ops a.tmps) = false → W r (a.put o.dst undef) → W (o :: r) a
theorem LW.list {P : Program} {ops : Array Oper} {Q : Exit → Act → World → Prop} {w : World} : LW P ops w (fun l a => wpList P ops Q l a w) :=
  ⟨fun o r a v hw hr h => by
    show wpList P ops Q (o :: r) a w
    unfold wpList
    rw [if_pos hw]
    refine .inl ?_
    unfold Oper.wp
    rw [hr w (fun _ => rfl), Oper.upon_value]
    exact h, fun o r a hw h => by
    show wpList P ops Q (o :: r) a w
    unfold wpList
    rw [if_neg (by simp [hw])]
    exact h⟩
theorem LW.quiet {P : Program} {ops : Array Oper} {Q : Act → Prop} {w : World} : LW P ops w (wpQuiet P ops (fun w' => ∃ n, w' = w.drewN n) Q) :=
  ⟨fun o r a v hw hr h => by
    unfold wpQuiet
    rw [if_pos hw]
    refine ⟨v, ?_, h⟩
    rintro _ ⟨m, rfl⟩
    unfold Oper.quietAt
    rw [hr (w.drewN m) (fun _ => rfl)]
    exact ⟨rfl, rfl⟩, fun o r a hw h => by
    unfold wpQuiet
    rw [if_neg (by simp [hw])]
    exact h⟩
def gslot (os : List Oper) (j : Nat) : Option Nat := match nth os j with | some o => o.dst | none => none
/-- the condition under which an operation is carried out -/
def condO (os : List Oper) (G : Fm) (D : DD) (o : Oper) : Option (List (Nat × Bool)) := match o.guard with
  | none => some []
  | some (j, want) => match gslot os j with
    | none => none
    | some s => match G s with
      | .bool _ => some ((s, want) :: D s)
      | _ => none
def slotsC : List (Nat × Bool) → List Nat
  | [] => []
  | (s, _) :: r => s :: slotsC r
def pickV (c a b : Value) : Option Value := match c, a, b with
  | .bool t, .bool x, .bool y => some (.bool (bif t then x else y))
  | _, _, _ => none
/-- one operation: its value, and what is owed of memory -/
def valG (T : Tab) (G : Fm) (D : DD) (C : List (Nat × Bool)) (o : Oper) (vs : List Value) : Option (Value × List Value × List (Prop × Addr × Value)) := match o.op with
  | .pick (.tmp c) a b => bif subC (D c) C && okG D ((c, true) :: C) a && okG D ((c, false) :: C) b then
      (match pickV (G c) (ev G a) (ev G b) with | some v => some (v, vs, []) | none => none) else none
  | .load t x => bif okG D C x && mem T.ones t then (match ev G x, vs with
      | .pointer (some a), v :: vs' => some (v, vs', [(Hc G C, a, v)])
      | _, _ => none) else none
  | _ => bif okGs D C o.op.operands.toList then (match pv T o G with | some v => some (v, vs, []) | none => none) else none
def runG (T : Tab) (os : List Oper) : Nat → List Oper → List Value → Fm → DD → List Nat → Option (List Oper × Fm × DD × List (Prop × Addr × Value))
  | 0, l, _, G, D, _ => some (l, G, D, [])
  | _ + 1, [], _, G, D, _ => some ([], G, D, [])
  | k + 1, o :: r, vs, G, D, U => match o.dst, condO os G D o with
    | some d, some C => match valG T G D C o vs with
      | some (v, vs', ob) => bif mem (slotsC C ++ U) d then none else
        match runG T os k r vs' (upd G d v) (updD D d C) (slotsC C ++ U) with
        | some (l, G', D', ob') => some (l, G', D', ob ++ ob')
        | none => none
      | none => none
    | _, _ => none
def D0 : DD := fun _ => []
def ovr (D : DD) (G j : Fm) : Fm := fun t => match D t with | [] => G t | _ :: _ => j t

structure Rel (G : Fm) (D : DD) (U : List Nat) (R : Fm) : Prop where
  yes : ∀ t, Hc G (D t) → R t = G t
  no : ∀ t, ¬ Hc G (D t) → R t = undef
  sl : ∀ t s b, (s, b) ∈ D t → s ∈ U

theorem Hc_iff {G : Fm} : ∀ {c : List (Nat × Bool)}, Hc G c ↔ ∀ s b, (s, b) ∈ c → G s = .bool b
  | [] => by simp [Hc]
  | (s, b) :: r => by
    simp only [Hc, List.mem_cons, Prod.mk.injEq, Hc_iff (c := r)]
    constructor
    · rintro ⟨h1, h2⟩ s' b' (⟨rfl, rfl⟩ | h)
      · exact h1
      · exact h2 _ _ h
    · intro h; exact ⟨h _ _ (.inl ⟨rfl, rfl⟩), fun s' b' h' => h _ _ (.inr h')⟩
theorem memC_mem : ∀ (c : List (Nat × Bool)) (s : Nat) (b : Bool), memC c s b = true → (s, b) ∈ c
  | [], _, _, h => by simp [memC] at h
  | (t, x) :: r, s, b, h => by
    unfold memC at h
    cases hh : (Nat.beq t s && (x == b)) with
    | true =>
      simp only [Bool.and_eq_true, beq_iff_eq] at hh
      rw [Nat.eq_of_beq_eq_true hh.1, hh.2]; exact List.mem_cons_self
    | false => simp [hh] at h; exact List.mem_cons_of_mem _ (memC_mem r s b h)
theorem subC_spec : ∀ (a c : List (Nat × Bool)), subC a c = true → ∀ s b, (s, b) ∈ a → (s, b) ∈ c
  | [], _, _, _, _, hm => by cases hm
  | (s, b) :: r, c, h, s', b', hm => by
    simp only [subC, Bool.and_eq_true] at h
    rcases List.mem_cons.1 hm with he | hm
    · injection he with e1 e2; subst e1; subst e2; exact memC_mem _ _ _ h.1
    · exact subC_spec r c h.2 _ _ hm
theorem Hc_sub {G : Fm} {a c : List (Nat × Bool)} (h : subC a c = true) (hc : Hc G c) : Hc G a :=
  Hc_iff.2 fun s b hm => Hc_iff.1 hc s b (subC_spec _ _ h s b hm)
theorem Hc_upd {G : Fm} {d : Nat} {v : Value} {c : List (Nat × Bool)} (h : ∀ s b, (s, b) ∈ c → s ≠ d) : Hc (upd G d v) c ↔ Hc G c := by
  simp only [Hc_iff]
  have e : ∀ s b, (s, b) ∈ c → upd G d v s = G s := fun s b hm => by
    unfold upd
    cases hb : Nat.beq s d with
    | true => exact absurd (Nat.eq_of_beq_eq_true hb) (h s b hm)
    | false => rfl
  exact ⟨fun hh s b hm => by rw [← e s b hm]; exact hh s b hm, fun hh s b hm => by rw [e s b hm]; exact hh s b hm⟩
theorem mem_slotsC : ∀ (c : List (Nat × Bool)) (s : Nat) (b : Bool), (s, b) ∈ c → s ∈ slotsC c
  | [], _, _, h => by cases h
  | (t, x) :: r, s, b, h => by
    rcases List.mem_cons.1 h with he | hm
    · injection he with e1 _; subst e1; simp [slotsC]
    · simp [slotsC, mem_slotsC r s b hm]
theorem mem_of_mem : ∀ (l : List Nat) (x : Nat), x ∈ l → mem l x = true
  | [], _, h => by cases h
  | t :: r, x, h => by
    unfold mem
    rcases List.mem_cons.1 h with rfl | h
    · simp
    · simp [mem_of_mem r x h]

section
variable {P : Program} {T : Tab} [hT : TabOk P T] {n : Nat}

theorem LW.val {ops : Array Oper} {w : World} {W : List Oper → Act → Prop} (hW : LW P ops w W) {o : Oper} {r : List Oper} {F : Fm} {v : Value} (hg : o.guard = none)
    (hr : ∀ w', (∀ b, w'.cell? b = w.cell? b) → (execOp (act n F).eval o).run P w' = .ok (.value v) w') (h : W r (act n (updo F o.dst v))) : W (o :: r) (act n F) :=
  hW.yes o r _ v (by simp [Region.wanted, hg]) hr (by rw [act_put]; exact h)

theorem LW.runs {ops : Array Oper} {w : World} {W : List Oper → Act → Prop} (hW : LW P ops w W) : ∀ (k : Nat) (l : List Oper) (vs : List Value) (F : Fm) (l' : List Oper) (F' : Fm) (ob : List (Addr × Value)),
    run T k l vs F = some (l', F', ob) → okL n l = true → obs w ob → W l' (act n F') → W l (act n F) := by
  intro k
  induction k with
  | zero => intro l vs F l' F' ob h _ _ hk; simp [run] at h; obtain ⟨rfl, rfl, _⟩ := h; exact hk
  | succ k ih =>
    intro l vs F l' F' ob h hok hob hk
    cases l with
    | nil => simp [run] at h; obtain ⟨rfl, rfl, _⟩ := h; exact hk
    | cons o r =>
      obtain ⟨h1, h2⟩ := okL_cons hok
      simp only [run] at h
      split at h
      · cases h
      · rename_i hg
        split at h
        · rename_i a ha
          split at h
          · cases h
          · rename_i v vs'
            split at h
            · rename_i l2 F2 ob2 hh
              simp only [Option.some.injEq, Prod.mk.injEq] at h
              obtain ⟨rfl, rfl, rfl⟩ := h
              obtain ⟨hc, hob'⟩ := obs_cons hob
              exact hW.val hg (fun w' hw' => ldO_ok ha h1 ((hw' _).trans hc)) (ih _ _ _ _ _ _ hh h2 hob' hk)
            · cases h
        · split at h
          · rename_i v hv
            exact hW.val hg (fun w' _ => pv_ok hv h1 w') (ih _ _ _ _ _ _ h h2 hob hk)
          · cases h
theorem okGs_mem {D : DD} {C : List (Nat × Bool)} : ∀ (l : List Operand), okGs D C l = true → ∀ x ∈ l, okG D C x = true
  | [], _, _, h => by cases h
  | y :: r, h, x, hm => by
    simp only [okGs, Bool.and_eq_true] at h
    rcases List.mem_cons.1 hm with rfl | hm
    · exact h.1
    · exact okGs_mem r h.2 x hm
theorem okG_ev {G R : Fm} {D : DD} {U : List Nat} {C : List (Nat × Bool)} {x : Operand} (hR : Rel G D U R) (hC : Hc G C) (h : okG D C x = true) : ev R x = ev G x := by
  cases x with
  | tmp t => exact hR.yes t (Hc_sub h hC)
  | const v => rfl
  | global g => rfl
  | func f => rfl
/-- an operation looks at its operands alone -/
theorem execOp_congr {o : Oper} {ρ ρ' : Operand → Value} (h : ∀ x ∈ o.op.operands.toList, ρ x = ρ' x) (hp : ∃ v F, pv T o F = some v) : execOp ρ o = execOp ρ' o := by
  obtain ⟨v, F, hv⟩ := hp
  obtain ⟨dst, op, ty, pos, after, guard⟩ := o
  cases op <;> simp only [pv, reduceCtorEq] at hv <;> simp only [Op.operands] at h <;> simp only [execOp]
  case move x => rw [h x (by simp)]
  case assign x => rw [h x (by simp)]
  case pick a b c => rw [h a (by simp), h b (by simp), h c (by simp)]
  case nilCheck x => rw [h x (by simp)]
  case binOp op t x y yt => rw [h x (by simp), h y (by simp)]
  case unOp op t x => rw [h x (by simp)]
  case convert s d x => rw [h x (by simp)]
  case extract t i => rw [h t (by simp)]
  case field t x f => rw [h x (by simp)]
  case fieldAddr t x f => rw [h x (by simp)]
  case call c =>
    obtain ⟨callee, args, argTypes⟩ := c
    cases callee with
    | builtin b =>
      have e : args.map ρ = args.map ρ' := by
        apply Array.map_congr_left
        intro x hx
        exact h x (by simp [Call.operands, hx])
      simp only [resolve, e]
    | value f => simp at hv
    | invoke r nm => simp at hv
theorem runs_congr {o : Oper} {G R : Fm} {v : Value} {w : World} (hok : okO n o = true) (h : ∀ x ∈ o.op.operands.toList, ev R x = ev G x) (hv : pv T o G = some v) : (execOp (act n R).eval o).run P w = .ok (.value v) w := by
  have e := execOp_congr (T := T) (o := o) (ρ := (act n R).eval) (ρ' := (act n G).eval) (fun x hx => by rw [okX_of hok hx, okX_of hok hx]; exact h x hx) ⟨v, G, hv⟩
  rw [e]
  exact pv_ok hv hok w

theorem valG_ok {o : Oper} {G R : Fm} {D : DD} {U : List Nat} {C : List (Nat × Bool)} {vs vs' : List Value} {v : Value} {ob : List (Prop × Addr × Value)} {w : World} (hok : okO n o = true) (hR : Rel G D U R) (hC : Hc G C)
    (h : valG T G D C o vs = some (v, vs', ob)) (hob : ∀ p ∈ ob, p.1 → w.cell? p.2.1 = some p.2.2) : (execOp (act n R).eval o).run P w = .ok (.value v) w := by
  unfold valG at h
  split at h
  · rename_i c a b hop
    cases hc : (subC (D c) C && okG D ((c, true) :: C) a && okG D ((c, false) :: C) b) with
    | false => simp [hc] at h
    | true =>
      simp only [hc, cond_true] at h
      simp only [Bool.and_eq_true] at hc
      obtain ⟨⟨h1, h2⟩, h3⟩ := hc
      have hcc : R c = G c := hR.yes c (Hc_sub h1 hC)
      split at h
      · rename_i v' hv
        simp only [Option.some.injEq, Prod.mk.injEq] at h
        obtain ⟨rfl, rfl, rfl⟩ := h
        unfold pickV at hv
        split at hv
        · rename_i t x y e1 e2 e3
          simp only [Option.some.injEq] at hv
          subst hv
          have q1 : (act n R).eval (.tmp c) = .bool t := by rw [okX_of hok (by simp [hop, Op.operands])]; exact hcc.trans e1
          simp only [execOp, hop, q1, asBool, Sem.run_bind, Sem.run_pure, Result.andThen_ok]
          cases t with
          | true =>
            have q2 : (act n R).eval a = .bool x := by rw [okX_of hok (by simp [hop, Op.operands]), okG_ev hR (C := (c, true) :: C) ⟨e1, hC⟩ h2]; exact e2
            simp [q2]
          | false =>
            have q3 : (act n R).eval b = .bool y := by rw [okX_of hok (by simp [hop, Op.operands]), okG_ev hR (C := (c, false) :: C) ⟨e1, hC⟩ h3]; exact e3
            simp [q3]
        · cases hv
      · cases h
  · rename_i t x hop
    cases hc : (okG D C x && mem T.ones t) with
    | false => simp [hc] at h
    | true =>
      simp only [hc, cond_true] at h
      simp only [Bool.and_eq_true] at hc
      split at h
      · rename_i a v' vs2 e1
        simp only [Option.some.injEq, Prod.mk.injEq] at h
        obtain ⟨rfl, rfl, rfl⟩ := h
        have hcell := hob _ (List.mem_singleton.2 rfl) hC
        refine ldO_ok (T := T) ?_ hok hcell
        unfold ldO
        simp only [hop, okG_ev hR hC hc.1, e1, hc.2, cond_true]
      · cases h
  · rename_i hnp hnl
    cases hc : okGs D C o.op.operands.toList with
    | false => simp [hc] at h
    | true =>
      simp only [hc, cond_true] at h
      split at h
      · rename_i v' hv
        simp only [Option.some.injEq, Prod.mk.injEq] at h
        obtain ⟨rfl, rfl, rfl⟩ := h
        exact runs_congr hok (fun x hx => okG_ev hR hC (okGs_mem _ hc x hx)) hv
      · cases h

theorem obsG_mem {w : World} : ∀ (l : List (Prop × Addr × Value)), obsG w l → ∀ p ∈ l, p.1 → w.cell? p.2.1 = some p.2.2
  | [], _, _, h => by cases h
  | [p], h, q, hm => by simp at hm; subst hm; exact h
  | p :: p2 :: r, h, q, hm => by
    rcases List.mem_cons.1 hm with rfl | hm
    · exact h.1
    · exact obsG_mem (p2 :: r) h.2 q hm

theorem okL_get : ∀ (l : List Oper), okL n l = true → ∀ (j : Nat) (o : Oper), l[j]? = some o → okO n o = true
  | [], _, _, _, h => by simp at h
  | o :: r, h, j, o', hj => by
    obtain ⟨h1, h2⟩ := okL_cons h
    cases j with
    | zero => simp at hj; subst hj; exact h1
    | succ j => simp at hj; exact okL_get r h2 j o' hj

theorem condO_wanted {os : List Oper} (hos : okL n os = true) {o : Oper} {G R : Fm} {D : DD} {U : List Nat} {C : List (Nat × Bool)} (hR : Rel G D U R) (h : condO os G D o = some C) :
    (Region.wanted o (yielded os.toArray (act n R).tmps) = true ∧ Hc G C) ∨ (Region.wanted o (yielded os.toArray (act n R).tmps) = false ∧ ¬ Hc G C) := by
  unfold condO at h
  unfold Region.wanted
  cases hg : o.guard with
  | none => simp only [hg, Option.some.injEq] at h; subst h; exact .inl ⟨rfl, trivial⟩
  | some g =>
    obtain ⟨j, want⟩ := g
    simp only [hg] at h
    cases hs : gslot os j with
    | none => simp [hs] at h
    | some s =>
      simp only [hs] at h
      split at h
      · rename_i b hGs
        simp only [Option.some.injEq] at h
        subst h
        unfold gslot at hs
        rw [nth_eq] at hs
        cases hj : os[j]? with
        | none => simp [hj] at hs
        | some oj =>
          simp only [hj] at hs
          have hlt : s < n := by
            have h1 := okL_get os hos j oj hj
            simp only [okO, hs, okD, Bool.and_eq_true] at h1
            exact blt_iff.1 h1.2
          have hy : yielded os.toArray (act n R).tmps j = match R s with | .bool b => some b | _ => none := by
            unfold yielded
            simp [hj, hs, act_get? n R s hlt]
            cases R s <;> rfl
          simp only [hy]
          by_cases hD : Hc G (D s)
          · rw [hR.yes s hD, hGs]
            by_cases hb : b = want
            · subst hb; exact .inl ⟨by simp, hGs, hD⟩
            · refine .inr ⟨by simp [hb], fun hh => ?_⟩
              have := hh.1
              rw [hGs] at this
              injection this with this
              exact hb this
          · rw [hR.no s hD]
            exact .inr ⟨rfl, fun hh => hD hh.2⟩
      · cases h

theorem Rel.step {G R : Fm} {D : DD} {U : List Nat} {C : List (Nat × Bool)} {d : Nat} {v u : Value} (hR : Rel G D U R) (hU : ∀ s b, (s, b) ∈ C → s ∈ slotsC C ++ U) (hd : d ∉ slotsC C ++ U)
    (hy : Hc G C → u = v) (hn : ¬ Hc G C → u = undef) : Rel (upd G d v) (updD D d C) (slotsC C ++ U) (upd R d u) := by
  have e1 : ∀ t, Nat.beq t d = false → (Hc (upd G d v) (D t) ↔ Hc G (D t)) := fun t _ => Hc_upd fun s b hm e => hd (by rw [← e]; exact List.mem_append_right _ (hR.sl t s b hm))
  have e2 : Hc (upd G d v) C ↔ Hc G C := Hc_upd fun s b hm e => hd (by rw [← e]; exact hU s b hm)
  refine ⟨fun t h => ?_, fun t h => ?_, fun t s b hm => ?_⟩
  · cases hb : Nat.beq t d with
    | true => simp only [updD, hb, cond_true, e2] at h; simp [upd, hb, hy h]
    | false => simp only [updD, hb, cond_false, e1 t hb] at h; simp [upd, hb, hR.yes t h]
  · cases hb : Nat.beq t d with
    | true => simp only [updD, hb, cond_true, e2] at h; simp [upd, hb, hn h]
    | false => simp only [updD, hb, cond_false, e1 t hb] at h; simp [upd, hb, hR.no t h]
  · cases hb : Nat.beq t d with
    | true => simp only [updD, hb, cond_true] at hm; exact hU s b hm
    | false => simp only [updD, hb, cond_false] at hm; exact List.mem_append_right _ (hR.sl t s b hm)

theorem runG_okL (os : List Oper) : ∀ (k : Nat) (l : List Oper) (vs : List Value) (G : Fm) (D : DD) (U : List Nat) (l' : List Oper) (G' : Fm) (D' : DD) (ob : List (Prop × Addr × Value)), runG T os k l vs G D U = some (l', G', D', ob) → okL n l = true → okL n l' = true := by
  intro k
  induction k with
  | zero => intro l vs G D U l' G' D' ob h hok; simp [runG] at h; obtain ⟨rfl, _⟩ := h; exact hok
  | succ k ih =>
    intro l vs G D U l' G' D' ob h hok
    cases l with
    | nil => simp [runG] at h; obtain ⟨rfl, _⟩ := h; rfl
    | cons o r =>
      obtain ⟨_, h2⟩ := okL_cons hok
      simp only [runG] at h
      split at h
      · rename_i d C hdst hC
        split at h
        · rename_i v vs2 ob2 hv
          cases hm : mem (slotsC C ++ U) d with
          | true => simp [hm] at h
          | false =>
            simp only [hm, cond_false] at h
            split at h
            · rename_i hh
              simp only [Option.some.injEq, Prod.mk.injEq] at h
              obtain ⟨rfl, _⟩ := h
              exact ih _ _ _ _ _ _ _ _ _ hh h2
            · cases h
        · cases h
      · cases h

theorem LW.runsG {os : List Oper} (hos : okL n os = true) {w : World} {W : List Oper → Act → Prop} (hW : LW P os.toArray w W) : ∀ (k : Nat) (l : List Oper) (vs : List Value) (G : Fm) (D : DD) (U : List Nat) (R : Fm) (l' : List Oper) (G' : Fm) (D' : DD) (ob : List (Prop × Addr × Value)),
    runG T os k l vs G D U = some (l', G', D', ob) → okL n l = true → (∀ p ∈ ob, p.1 → w.cell? p.2.1 = some p.2.2) → Rel G D U R → (∀ j, W l' (act n (ovr D' G' j))) → W l (act n R) := by
  intro k
  have fin : ∀ (l : List Oper) (G : Fm) (D : DD) (U : List Nat) (R : Fm), Rel G D U R → (∀ j, W l (act n (ovr D G j))) → W l (act n R) := by
    intro l G D U R hR hk
    have : ovr D G R = R := by
      funext t
      unfold ovr
      split
      · rename_i hD; exact (hR.yes t (by rw [hD]; trivial)).symm
      · rfl
    rw [← this]
    exact hk R
  induction k with
  | zero => intro l vs G D U R l' G' D' ob h _ _ hR hk; simp [runG] at h; obtain ⟨rfl, rfl, rfl, _⟩ := h; exact fin _ _ _ _ _ hR hk
  | succ k ih =>
    intro l vs G D U R l' G' D' ob h hok hob hR hk
    cases l with
    | nil => simp [runG] at h; obtain ⟨rfl, rfl, rfl, _⟩ := h; exact fin _ _ _ _ _ hR hk
    | cons o r =>
      obtain ⟨h1, h2⟩ := okL_cons hok
      simp only [runG] at h
      split at h
      · rename_i d C hdst hC
        split at h
        · rename_i v vs2 ob2 hv
          cases hm : mem (slotsC C ++ U) d with
          | true => simp [hm] at h
          | false =>
            simp only [hm, cond_false] at h
            split at h
            · rename_i l2 G2 D2 ob3 hh
              simp only [Option.some.injEq, Prod.mk.injEq] at h
              obtain ⟨rfl, rfl, rfl, rfl⟩ := h
              have hd : d ∉ slotsC C ++ U := fun hin => by rw [mem_of_mem _ _ hin] at hm; cases hm
              have hU : ∀ s b, (s, b) ∈ C → s ∈ slotsC C ++ U := fun s b hsb => List.mem_append_left _ (mem_slotsC _ _ _ hsb)
              have hob2 : ∀ p ∈ ob2, p.1 → w.cell? p.2.1 = some p.2.2 := fun p hp => hob p (List.mem_append_left _ hp)
              have hob3 : ∀ p ∈ ob3, p.1 → w.cell? p.2.1 = some p.2.2 := fun p hp => hob p (List.mem_append_right _ hp)
              rcases condO_wanted hos hR hC with ⟨hw, hcc⟩ | ⟨hw, hcc⟩
              · refine hW.yes o r _ v hw (fun w' hw' => valG_ok h1 hR hcc hv (fun p hp hh => (hw' _).trans (hob2 p hp hh))) ?_
                rw [act_put, hdst]
                exact ih _ _ _ _ _ _ _ _ _ _ hh h2 hob3 (hR.step hU hd (fun _ => rfl) (fun hn => absurd hcc hn)) hk
              · refine hW.no o r _ hw ?_
                rw [act_put, hdst]
                exact ih _ _ _ _ _ _ _ _ _ _ hh h2 hob3 (hR.step hU hd (fun hy => absurd hy hcc) (fun _ => rfl)) hk
            · cases h
        · cases h
      · cases h
end
end Go.V
