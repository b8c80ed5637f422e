/-
  The engine: regions that draw their order, where two effects may come in either order: a plan with branches. No program.
  Conditions: none; every fact is proved from the library's own definitions.
-/
import Derived.Test.YtenkmjbghbegfaaDoorDraw
namespace Go.Plan
open Go

inductive Tr where
  | nil
  | seg (s : List Nat) (r : Tr)
  | one (s : List Nat) (e : Nat) (re : List Nat) (r : Tr)
  | two (s : List Nat) (e1 : Nat) (re1 : List Nat) (r1 : Tr) (e2 : Nat) (re2 : List Nat) (r2 : Tr)
def trLen : Tr → Nat
  | .nil => 0
  | .seg s r => s.length + trLen r
  | .one s _ _ r => s.length + (trLen r + 1)
  | .two s _ _ r1 _ _ _ => s.length + (trLen r1 + 1)
def trEs : Tr → List Nat
  | .nil => []
  | .seg _ r => trEs r
  | .one _ e _ r => e :: trEs r
  | .two _ e1 _ r1 e2 _ r2 => e1 :: e2 :: (trEs r1 ++ trEs r2)
def effOk (ops : Array Oper) (es : Nat → Bool) (lt : Nat → List Nat) (l : Array Bool) (e : Nat) (re : List Nat) : Bool := es e && (ops[e]?).isSome && (Region.ready .any ops l).contains e && ((lt e).all fun r => !l.getD r false || re.contains r)
def trOk (ops : Array Oper) (anc : Array Nat) (es : Nat → Bool) (lt : Nat → List Nat) : Tr → Array Bool → Bool
  | .nil, listed => (Region.ready .any ops listed).isEmpty
  | .seg s r, listed => match segOk ops anc es lt s listed with
    | some l => trOk ops anc es lt r l
    | none => false
  | .one s e re r, listed => match segOk ops anc es lt s listed with
    | some l => effOk ops es lt l e re && (Region.ready .any ops l).all (fun j => j == e) && trOk ops anc es lt r (l.setIfInBounds e true)
    | none => false
  | .two s e1 re1 r1 e2 re2 r2, listed => match segOk ops anc es lt s listed with
    | some l => effOk ops es lt l e1 re1 && effOk ops es lt l e2 re2 && (Region.ready .any ops l).all (fun j => j == e1 || j == e2) && trOk ops anc es lt r1 (l.setIfInBounds e1 true) && trOk ops anc es lt r2 (l.setIfInBounds e2 true) && trLen r1 == trLen r2
    | none => false
def checkT (ops : Array Oper) (st : Tr) : Bool :=
  let anc := Region.before ops
  let es := fun j => (trEs st).contains j
  let lt := ltOf ops.size anc es
  Region.noSelect ops && ancOk ops anc && (trLen st == ops.size) && trOk ops anc es lt st (Array.replicate ops.size false)
def wpTr (P : Program) (ops : Array Oper) (next : Act → World → Prop) : Tr → Act → World → Prop
  | .nil, a, w => ∀ w', (∃ n, w' = w.drewN n) → next a w'
  | .seg s r, a, w => wpQuiet P ops (fun w' => ∃ n, w' = w.drewN n) (fun a' => wpTr P ops next r a' w) (opsAt ops s) a
  | .one s e re r, a, w => wpQuiet P ops (fun w' => ∃ n, w' = w.drewN n) (fun a' => ∀ w', (∃ n, w' = w.drewN n) →
      wpList P ops (Exit.then (fun a'' w'' => RE P ops w'' a'' (opsAt ops re) ∧ wpTr P ops next r a'' w'') nope) (opsAt ops [e]) a' w') (opsAt ops s) a
  | .two s e1 re1 r1 e2 re2 r2, a, w => wpQuiet P ops (fun w' => ∃ n, w' = w.drewN n) (fun a' => ∀ w', (∃ n, w' = w.drewN n) →
      wpList P ops (Exit.then (fun a'' w'' => RE P ops w'' a'' (opsAt ops re1) ∧ wpTr P ops next r1 a'' w'') nope) (opsAt ops [e1]) a' w' ∧
      wpList P ops (Exit.then (fun a'' w'' => RE P ops w'' a'' (opsAt ops re2) ∧ wpTr P ops next r2 a'' w'') nope) (opsAt ops [e2]) a' w') (opsAt ops s) a
section
variable {P : Program} {ops : Array Oper} {anc : Array Nat} {es : Nat → Bool} {lt : Nat → List Nat} {next : Act → World → Prop}
/-- one effect of those that may come -/
theorem eff_step {l : Array Bool} {e : Nat} {re : List Nat} {M : Act → World → Prop} {N : Act → World → Prop} (h : effOk ops es lt l e re = true) (hMN : ∀ a w, M a w → N a w) {a : Act} {w : World}
    (h2 : wpList P ops (Exit.then (fun a'' w'' => RE P ops w'' a'' (opsAt ops re) ∧ M a'' w'') nope) (opsAt ops [e]) a w) :
    wpOp P ops (Qn next) e (fun a' w'' => (∀ r ∈ lt e, l.getD r false = true → Rechk P ops w'' r a') ∧ N a' w'') a w := by
  simp only [effOk, Bool.and_eq_true, List.all_eq_true, Bool.or_eq_true, Bool.not_eq_true'] at h
  obtain ⟨⟨⟨_, hsome⟩, _⟩, hre⟩ := h
  obtain ⟨oe, hoe⟩ := Option.isSome_iff_exists.1 hsome
  simp only [opsAt, List.filterMap_cons, hoe, List.filterMap_nil] at h2
  have fin : ∀ a'' w'', (RE P ops w'' a'' (re.filterMap (ops[·]?)) ∧ M a'' w'') → ((∀ r ∈ lt e, l.getD r false = true → Rechk P ops w'' r a'') ∧ N a'' w'') := by
    rintro a'' w'' ⟨h3, h4⟩
    refine ⟨fun r hr hlr => ?_, hMN _ _ h4⟩
    have hmem : r ∈ re := by
      rcases hre r hr with h5 | h5
      · rw [hlr] at h5; cases h5
      · simpa using h5
    unfold Rechk qOp
    cases hro : ops[r]? with
    | none => simp
    | some ro => exact RE_mem _ h3 ro (List.mem_filterMap.2 ⟨r, hmem, hro⟩)
  unfold wpOp
  simp only [hoe]
  simp only [wpList] at h2
  split
  · rename_i hwant
    rw [if_pos hwant] at h2
    rcases h2 with h2 | ⟨_, h2⟩
    · exact .inl (Oper.wp_mono (fun a'' w'' h3 => fin a'' w'' h3) (Oper.wp_monoQ (fun e a w hne h => by cases e <;> first | exact absurd rfl hne | exact h) h2))
    · obtain ⟨_, _, h2⟩ := h2; exact h2.elim
  · rename_i hwant
    rw [if_neg hwant] at h2
    exact fin _ _ h2
theorem effOk_es {l : Array Bool} {e : Nat} {re : List Nat} (h : effOk ops es lt l e re = true) : es e = true ∧ e ∈ Region.ready .any ops l := by
  simp only [effOk, Bool.and_eq_true] at h
  exact ⟨h.1.1.1, by simpa using h.1.2⟩
theorem tr_sound (hsel : ∀ (j : Nat) (o : Oper) cs b, ops[j]? = some o → o.op ≠ .select cs b) (hanc : ancOk ops anc = true) :
    ∀ (st : Tr) (listed : Array Bool) (a : Act) (w : World), trOk ops anc es lt st listed = true → Closed ops listed → wpTr P ops next st a w → wpAnyR P ops es lt next (trLen st) listed a w := by
  intro st
  induction st with
  | nil => intro listed a w h _ hw; exact ⟨by simpa [trOk] using h, hw⟩
  | seg s r ih =>
    intro listed a w h hc hw
    simp only [trOk] at h
    split at h
    · rename_i l hl
      refine seg_sound hsel hanc (trLen r) w s listed l a hl hc ?_
      exact wpQuiet_mono (fun a' h' hc' => ih l a' w h hc' h') _ _ hw
    · cases h
  | one s e re r ih =>
    intro listed a w h hc hw
    simp only [trOk] at h
    split at h
    · rename_i l hl
      simp only [Bool.and_eq_true, List.all_eq_true, beq_iff_eq] at h
      obtain ⟨⟨he, hready⟩, hrest⟩ := h
      obtain ⟨hes, hmem⟩ := effOk_es he
      have hcl := segOk_closed s listed l hl hc
      refine seg_sound hsel hanc (trLen r + 1) w s listed l a hl hc ?_
      refine wpQuiet_mono (fun a' h' _ => ⟨fun h0 => (by rw [h0] at hmem; cases hmem), fun j hj => ?_⟩) _ _ hw
      obtain rfl := hready j hj
      rw [if_pos hes]
      intro w' hw'
      exact eff_step he (fun a'' w'' h4 => ih _ a'' w'' hrest (hcl.set hmem) h4) (h' w' hw')
    · cases h
  | two s e1 re1 r1 e2 re2 r2 ih1 ih2 =>
    intro listed a w h hc hw
    simp only [trOk] at h
    split at h
    · rename_i l hl
      simp only [Bool.and_eq_true, List.all_eq_true, beq_iff_eq, Bool.or_eq_true] at h
      obtain ⟨⟨⟨⟨⟨he1, he2⟩, hready⟩, hrest1⟩, hrest2⟩, hlen⟩ := h
      obtain ⟨hes1, hmem1⟩ := effOk_es he1
      obtain ⟨hes2, hmem2⟩ := effOk_es he2
      have hcl := segOk_closed s listed l hl hc
      refine seg_sound hsel hanc (trLen r1 + 1) w s listed l a hl hc ?_
      refine wpQuiet_mono (fun a' h' _ => ⟨fun h0 => (by rw [h0] at hmem1; cases hmem1), fun j hj => ?_⟩) _ _ hw
      rcases hready j hj with rfl | rfl
      · rw [if_pos hes1]
        intro w' hw'
        exact eff_step he1 (fun a'' w'' h4 => ih1 _ a'' w'' hrest1 (hcl.set hmem1) h4) (h' w' hw').1
      · rw [if_pos hes2]
        intro w' hw'
        rw [hlen]
        exact eff_step he2 (fun a'' w'' h4 => ih2 _ a'' w'' hrest2 (hcl.set hmem2) h4) (h' w' hw').2
    · cases h
theorem wp_tree {id : Nat} {Q : Exit → Act → World → Prop} {a : Act} {w : World} (st : Tr) (hm : P.follows .mixedOrders = true) (hB : checkT ops st = true)
    (h : wpTr P ops (fun a w => Q .normal a w) st a w) : (Code.region id ops true).wp P Q a w := by
  simp only [checkT, Bool.and_eq_true, beq_iff_eq] at hB
  obtain ⟨⟨⟨hs, hanc⟩, hlen⟩, hplan⟩ := hB
  have hcl : Closed ops (Array.replicate ops.size false) := by
    intro j o _ hj
    have : (Array.replicate ops.size false).getD j false = false := by
      rcases Nat.lt_or_ge j ops.size with h' | h'
      · simp [h']
      · simp [h']
    rw [this] at hj
    cases hj
  have h1 := tr_sound (next := fun a w => Q .normal a w) (Region.noSelect_spec hs) hanc st _ a w hplan hcl h
  rw [hlen] at h1
  have h2 := wpAny_of_R _ _ _ _ h1 { w with drawn := w.drawn + 1 } ⟨1, rfl⟩
  refine wp_mono (Q := Qn (fun a w => Q .normal a w)) (wp_region_any hm h2) fun e a w hq => ?_
  cases e <;> first | exact hq | exact hq.elim
end
end Go.Plan
namespace Go.V
open Go Go.RowKit Go.Plan
def PT (P : Program) (n : Nat) (os : List Oper) (next : Kt) : Tr → Fm → World → Prop
  | .nil, F, w => ∀ m, next F (w.drewN m)
  | .seg s r, F, w => WQ P n os (opsL os s) w (fun F' => PT P n os next r F' w) F
  | .one s e re r, F, w => WQ P n os (opsL os s) w (fun F' => ∀ m, WL P n os (opsL os [e]) (fun F'' w'' => RQs P n os w'' F'' (opsL os re) ∧ PT P n os next r F'' w'') F' (w.drewN m)) F
  | .two s e1 re1 r1 e2 re2 r2, F, w => WQ P n os (opsL os s) w (fun F' => ∀ m, WL P n os (opsL os [e1]) (fun F'' w'' => RQs P n os w'' F'' (opsL os re1) ∧ PT P n os next r1 F'' w'') F' (w.drewN m) ∧
      WL P n os (opsL os [e2]) (fun F'' w'' => RQs P n os w'' F'' (opsL os re2) ∧ PT P n os next r2 F'' w'') F' (w.drewN m)) F
section
variable {P : Program} {T : Tab} [hT : TabOk P T] {n : Nat} {os : List Oper}
theorem PT_tree (hos : okL n os = true) {Q : Exit → Act → World → Prop} {next : Kt} (hQ : ∀ F w, next F w → Q .normal (act n F) w) : ∀ (st : Tr) (F : Fm) (w : World), PT P n os next st F w →
    wpTr P os.toArray (fun a w => Q .normal a w) st (act n F) w := by
  have eff : ∀ {M : Kt} {N : Act → World → Prop} (e : Nat) (re : List Nat) (hMN : ∀ F w, M F w → N (act n F) w) (F : Fm) (w : World), WL P n os (opsL os [e]) (fun F'' w'' => RQs P n os w'' F'' (opsL os re) ∧ M F'' w'') F w →
      wpList P os.toArray (Exit.then (fun a'' w'' => RE P os.toArray w'' a'' (opsAt os.toArray re) ∧ N a'' w'') nope) (opsAt os.toArray [e]) (act n F) w := fun e re hMN F w h => by
    have h2 := h.go hos (okL_opsL hos [e])
    rw [opsL_eq os [e]] at h2
    refine WC.region.wpList_imp ?_ _ _ _ h2
    intro ex a w' hh
    cases ex <;> first
      | exact hh.elim
      | (obtain ⟨F'', rfl, hre, hpl⟩ := hh
         refine ⟨?_, hMN F'' w' hpl⟩
         rw [← opsL_eq]
         exact RE_of hos _ (okL_opsL hos re) (RQs_mem _ hre))
  intro st
  induction st with
  | nil => rintro F w h _ ⟨m, rfl⟩; exact hQ _ _ (h m)
  | seg s r ih =>
    intro F w h
    have h1 := h.go hos (okL_opsL hos s)
    rw [opsL_eq os s] at h1
    refine Plan.wpQuiet_mono ?_ _ _ h1
    rintro a ⟨F', rfl, hF'⟩
    exact ih F' w hF'
  | one s e re r ih =>
    intro F w h
    have h1 := h.go hos (okL_opsL hos s)
    rw [opsL_eq os s] at h1
    refine Plan.wpQuiet_mono ?_ _ _ h1
    rintro a ⟨F', rfl, hF'⟩
    rintro _ ⟨m, rfl⟩
    exact eff e re ih F' _ (hF' m)
  | two s e1 re1 r1 e2 re2 r2 ih1 ih2 =>
    intro F w h
    have h1 := h.go hos (okL_opsL hos s)
    rw [opsL_eq os s] at h1
    refine Plan.wpQuiet_mono ?_ _ _ h1
    rintro a ⟨F', rfl, hF'⟩
    rintro _ ⟨m, rfl⟩
    exact ⟨eff e1 re1 ih1 F' _ (hF' m).1, eff e2 re2 ih2 F' _ (hF' m).2⟩
/-- a region that draws its order, by a plan with branches -/
theorem WC.tree {id : Nat} {Q : Qt} {F : Fm} {w : World} (st : Tr) (hm : P.follows .mixedOrders = true) (hB : checkT os.toArray st = true) (h : PT P n os (Q .nrm) st F w) : WC P n (.region id os.toArray true) Q F w :=
  ⟨fun hok => by
    have hok' : okL n os = true := by simpa [okC] using hok
    refine Plan.wp_tree (Q := lift n Q) st hm hB ?_
    exact PT_tree hok' (fun F w hF => ⟨F, rfl, hF⟩) st F w h⟩
end
end Go.V
