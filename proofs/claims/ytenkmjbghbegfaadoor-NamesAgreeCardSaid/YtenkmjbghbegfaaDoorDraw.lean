/-
  The engine, seventh part, no program: regions that draw their order.
  Conditions: none; every fact is proved from the library's own definitions.
-/
import Derived.Test.YtenkmjbghbegfaaDoorSlc
namespace Go.V
open Go Go.RowKit

def opsL (os : List Oper) : List Nat → List Oper
  | [] => []
  | i :: r => match nth os i with | some o => o :: opsL os r | none => opsL os r
theorem opsL_eq (os : List Oper) : ∀ l, opsL os l = Plan.opsAt os.toArray l
  | [] => rfl
  | i :: r => by
    simp only [opsL, nth_eq, Plan.opsAt, List.filterMap_cons, List.getElem?_toArray]
    have := opsL_eq os r
    simp only [Plan.opsAt] at this
    cases h : os[i]? <;> simp [this]
/-- an operation asked again gives what it gave -/
structure RQ (P : Program) (n : Nat) (os : List Oper) (w : World) (F : Fm) (o : Oper) : Prop where
  go : okL n os = true → okO n o = true → wpQuiet P os.toArray (fun w' => ∃ m, w' = w.drewN m) (fun a' => a' = act n F) [o] (act n F)
def RQs (P : Program) (n : Nat) (os : List Oper) (w : World) (F : Fm) : List Oper → Prop
  | [] => True
  | [o] => RQ P n os w F o
  | o :: r => RQ P n os w F o ∧ RQs P n os w F r
abbrev Stp := List (List Nat × Option (Nat × List Nat))
def PL (P : Program) (n : Nat) (os : List Oper) (next : Kt) : Stp → Fm → World → Prop
  | [], F, w => ∀ m, next F (w.drewN m)
  | (seg, none) :: rest, F, w => WQ P n os (opsL os seg) w (fun F' => PL P n os next rest F' w) F
  | (seg, some (e, re)) :: rest, F, w => WQ P n os (opsL os seg) w (fun F' => ∀ m, WL P n os (opsL os [e]) (fun F'' w'' => RQs P n os w'' F'' (opsL os re) ∧ PL P n os next rest F'' w'') F' (w.drewN m)) F

section
variable {P : Program} {T : Tab} [hT : TabOk P T] {n : Nat} {os : List Oper}
theorem RQs_mem {w : World} {F : Fm} : ∀ (l : List Oper), RQs P n os w F l → ∀ o ∈ l, RQ P n os w F o
  | [], _, _, h => by cases h
  | [p], h, o, hm => by simp at hm; subst hm; exact h
  | p :: q :: r, h, o, hm => by
    rcases List.mem_cons.1 hm with rfl | hm
    · exact h.1
    · exact RQs_mem (q :: r) h.2 o hm
theorem RE_of (hos : okL n os = true) {w : World} {F : Fm} : ∀ (l : List Oper), okL n l = true → (∀ o ∈ l, RQ P n os w F o) → Plan.RE P os.toArray w (act n F) l
  | [], _, _ => trivial
  | o :: r, hok, h => by
    obtain ⟨h1, h2⟩ := okL_cons hok
    exact ⟨(h o (by simp)).go hos h1, RE_of hos r h2 fun o ho => h o (by simp [ho])⟩
theorem okL_opsL (hos : okL n os = true) : ∀ l, okL n (opsL os l) = true
  | [] => rfl
  | i :: r => by
    simp only [opsL, nth_eq]
    cases h : os[i]? with
    | none => exact okL_opsL hos r
    | some o => simp only [okL, Bool.and_eq_true]; exact ⟨okL_get os hos i o h, okL_opsL hos r⟩
theorem PL_plan (hos : okL n os = true) {Q : Exit → Act → World → Prop} {next : Kt} (hQ : ∀ F w, next F w → Q .normal (act n F) w) : ∀ (st : Stp) (F : Fm) (w : World), PL P n os next st F w →
    Plan.wpPlan P os.toArray (fun a w => Q .normal a w) st (act n F) w
  | [], F, w, h => by rintro _ ⟨m, rfl⟩; exact hQ _ _ (h m)
  | (seg, none) :: rest, F, w, h => by
    have h1 := h.go hos (okL_opsL hos seg)
    rw [opsL_eq os seg] at h1
    refine Plan.wpQuiet_mono ?_ _ _ h1
    rintro a ⟨F', rfl, hF'⟩
    exact PL_plan hos hQ rest F' w hF'
  | (seg, some (e, re)) :: rest, F, w, h => by
    have h1 := h.go hos (okL_opsL hos seg)
    rw [opsL_eq os seg] at h1
    refine Plan.wpQuiet_mono ?_ _ _ h1
    rintro a ⟨F', rfl, hF'⟩
    rintro _ ⟨m, rfl⟩
    have h2 := (hF' m).go hos (okL_opsL hos [e])
    rw [opsL_eq os [e]] at h2
    refine WC.region.wpList_imp ?_ _ _ _ h2
    intro ex a w' hh
    cases ex <;> first
      | exact hh.elim
      | (obtain ⟨F'', rfl, hre, hpl⟩ := hh
         refine ⟨?_, PL_plan hos hQ rest F'' w' hpl⟩
         rw [← opsL_eq]
         exact RE_of hos _ (okL_opsL hos re) (RQs_mem _ hre))
/-- a region that draws its order, by a plan -/
theorem WC.plan {id : Nat} {Q : Qt} {F : Fm} {w : World} (st : Stp) (hm : P.follows .mixedOrders = true) (hB : Plan.check os.toArray st = true) (h : PL P n os (Q .nrm) st F w) : WC P n (.region id os.toArray true) Q F w :=
  ⟨fun hok => by
    have hok' : okL n os = true := by simpa [okC] using hok
    refine Plan.wp_plan (Q := lift n Q) st hm hB ?_
    exact PL_plan hok' (fun F w hF => ⟨F, rfl, hF⟩) st F w h⟩
theorem RQ.pure {w : World} {F : Fm} {o : Oper} {v : Value} {d : Nat} (hg : o.guard = none) (h : pv T o F = some v) (hd : o.dst = some d) (hv : F d = v) : RQ P n os w F o :=
  ⟨fun _ h2 => by
    unfold wpQuiet
    rw [if_pos (by simp [Region.wanted, hg])]
    refine ⟨v, ?_, ?_⟩
    · rintro w' ⟨m, rfl⟩
      unfold Oper.quietAt
      rw [pv_ok h h2 _]
      exact ⟨rfl, rfl⟩
    · show _ = _
      rw [act_put, hd]
      show act n (upd F d v) = _
      rw [rebase hv]⟩
theorem RQ.load {w : World} {F : Fm} {o : Oper} {a : Addr} {d : Nat} {v : Value} (hg : o.guard = none) (h : ldO T o F = some a) (hd : o.dst = some d) (hv : F d = v) (hc : w.cell? a = some v) : RQ P n os w F o :=
  ⟨fun _ h2 => by
    unfold wpQuiet
    rw [if_pos (by simp [Region.wanted, hg])]
    refine ⟨v, ?_, ?_⟩
    · rintro w' ⟨m, rfl⟩
      unfold Oper.quietAt
      rw [ldO_ok h h2 (show (w.drewN m).cell? a = some v from hc)]
      exact ⟨rfl, rfl⟩
    · show _ = _
      rw [act_put, hd]
      show act n (upd F d v) = _
      rw [rebase hv]⟩
end

/-! ### small things for the printed proofs -/
theorem zvMk {P : Program} {t : TypeId} {v : Value} {cs : Array Value} (h : (P.info? t).map (fun i => i.zero) = some (some v)) (hc : v.cells = cs) : ZV P t cs := by
  cases hi : P.info? t with
  | none => rw [hi] at h; cases h
  | some i => rw [hi] at h; exact ⟨i, v, hi, by simpa using h, hc⟩
theorem agMk {P : Program} {t m : Nat} (h1 : (P.underlying t).isSome = true) (h2 : isAggB P t = true) (h : (P.info? t).map (fun i => i.size) = some m) : AggT P t m := by
  cases hi : P.info? t with
  | none => rw [hi] at h; cases h
  | some i => rw [hi] at h; exact ⟨h1, h2, i, hi, by simpa using h⟩
theorem elMk {P : Program} {t e : TypeId} {v : Value} {size bytes : Nat} {z : Array Value} (h1 : P.underlying t = some (.slice e)) (h : (P.info? e).map (fun i => (i.zero, i.size, i.bytes)) = some (some v, size, bytes)) (hc : v.cells = z) (hz : z.size = size) (hp : 0 < size)
    (ho : z.toList.all (fun u => u.oneCell') = true) : Elem P t e z size bytes := by
  cases hi : P.info? e with
  | none => rw [hi] at h; cases h
  | some i => rw [hi] at h; simp only [Option.map_some, Option.some.injEq, Prod.mk.injEq] at h; exact ⟨h1, ⟨i, v, hi, h.1, hc, h.2.1, h.2.2⟩, hz, hp, fun u hu => List.all_eq_true.1 ho u hu⟩
section
variable {P : Program} {g w : World} {L : List HP}
theorem St.lvF {t b : Nat} {cs : Array Value} {t' : TypeId} (hS : St g L w) (i : Nat) (hi : L[i]? = some (cel b cs t')) (ht : AggT P t cs.size) : (loadVar t ⟨b, 0, none⟩).run P w = .ok (.agg cs) w := by
  have := run_loadAgg (P := P) (w := w) (b := b) (off := 0) (cs := cs.toList) ht (by simp) (fun j u hj => by rw [Nat.zero_add]; exact hS.ld i hi (by simpa using hj))
  simpa using this
theorem len_of {ls : List (List Value)} {k : Nat} {cs : List Value} (h : ls[k]? = some cs) : k < ls.length := (List.getElem?_eq_some_iff.1 h).1
end
end Go.V
