/-
  Plain model of the reference's table of names: rows in ascending order; and that it keeps step with the program's table.
  Conditions: none.
-/
import Derived.Test.YtenkmjbghbegfaaDoorNmc
import Derived.Sort.Walk0
namespace Go.V
open Go Go.RowKit

/-- a row: its log has the latest handle first; where the log lies -/
structure RW where
  name : ByteArray
  h : Int
  lg : List Int
  a : Option Addr
  c : Nat
def rwC (r : RW) : List Value := [.string r.name, .int .u64 r.h, .slice r.a (u64s r.lg).length r.c]
def enR (l : List RW) : List (List Value) := l.map rwC
@[simp] theorem enR_len (l : List RW) : (enR l).length = l.length := by simp [enR]
theorem enR_at {l : List RW} {k : Nat} {r : RW} (h : l[k]? = some r) : (enR l)[k]? = some [.string r.name, .int .u64 r.h, .slice r.a (u64s r.lg).length r.c] := by simp [enR, h, rwC]
theorem enR_snoc (l : List RW) (r : RW) : enR l ++ [[.string r.name, .int .u64 r.h, .slice r.a (u64s r.lg).length r.c]] = enR (l ++ [r]) := by simp [enR, rwC]
theorem enR_app (l m : List RW) : enR (l ++ m) = enR l ++ enR m := by simp [enR]
theorem enR_ok (l : List RW) : OkE 3 (enR l) := fun x hx => by
  obtain ⟨y, _, rfl⟩ := List.mem_map.1 hx
  exact ⟨rfl, fun u hu => by simp [rwC] at hu; rcases hu with rfl | rfl | rfl <;> rfl⟩
theorem enR_nil : enR [] = [] := rfl
def rwF (r : RW) : List HP := [Sh 31 1 (u64s r.lg) r.a r.c]
theorem rwF_sh (r : RW) : ∀ A ∈ rwF r, Sht A := fun A hA => by
  simp only [rwF, List.mem_singleton] at hA; subst hA; exact Sht.sh
/-- no name twice -/
def RUq (R : List RW) : Prop := R.Pairwise fun a b => a.name ≠ b.name
theorem RUq.one {R : List RW} (h : RUq R) {i j : Nat} {x y : RW} (hi : R[i]? = some x) (hj : R[j]? = some y) (he : x.name = y.name) : i = j := by
  have h1 := (List.getElem?_eq_some_iff.1 hi).1
  have h2 := (List.getElem?_eq_some_iff.1 hj).1
  have e1 : R[i] = x := (List.getElem?_eq_some_iff.1 hi).2
  have e2 : R[j] = y := (List.getElem?_eq_some_iff.1 hj).2
  rcases Nat.lt_trichotomy i j with hl | hl | hl
  · exact absurd (by rw [e1, e2]; exact he) (List.pairwise_iff_getElem.1 h i j h1 h2 hl)
  · exact hl
  · exact absurd (by rw [e1, e2]; exact he.symm) (List.pairwise_iff_getElem.1 h j i h2 h1 hl)
theorem RUq.at_ {R : List RW} (h : RUq R) {i k : Nat} {r0 r : RW} {s : ByteArray} (hr0 : R[i]? = some r0) (hn : r0.name = s) (hr : R[k]? = some r) : ((k : Int) = (i : Int)) ↔ r.name = s := by
  constructor
  · intro e
    have e2 : k = i := by omega
    subst e2; rw [hr] at hr0; cases hr0; exact hn
  · intro e
    rw [h.one hr hr0 (e.trans hn.symm)]
theorem rw_cases (R : List RW) (s : ByteArray) : (∃ (k : Nat) (x : RW), R[k]? = some x ∧ x.name = s) ∨ ∀ x ∈ R, x.name ≠ s := by
  by_cases h : ∃ x ∈ R, x.name = s
  · obtain ⟨x, hx, hn⟩ := h
    obtain ⟨k, hk⟩ := List.mem_iff_getElem?.1 hx
    exact .inl ⟨k, x, hk, hn⟩
  · exact .inr fun x hx hn => h ⟨x, hx, hn⟩
theorem St.shsSub {α : Type} {f : α → List HP} {zs zs' : List α} {g w : World} {L : List HP} (h : St g (Shs f zs :: L) w) (hs : ∀ z ∈ zs', z ∈ zs) : St g (Shs f zs' :: L) w := h.impl fun _ _ hh z hz => hh z (hs z hz)
/-! ### the loop of Set -/
def lessB (a b : ByteArray) : Bool := Op.bytesLess a.toList b.toList
theorem lessB_iff {a b : ByteArray} : lessB a b = true ↔ ¬ bleq b a := by
  unfold lessB bleq
  rw [Go.Proofs.bytesLess_eq, ByteArray.toList_eq, ByteArray.toList_eq, decide_eq_true_eq]
  exact Iff.symm List.not_le
def rstep (s : ByteArray) (x : RW) (p : List RW × Bool) (r : RW) : List RW × Bool :=
  let q := if (!p.2) = true ∧ (!lessB r.name s) = true then (p.1 ++ [x], true) else p
  (if r.name = s then q.1 else q.1 ++ [r], q.2)
def rins (s : ByteArray) (x : RW) (put : Bool) (R : List RW) : List RW :=
  let p := R.foldl (rstep s x) ([], put)
  if p.2 = true then p.1 else p.1 ++ [x]
theorem rstep_take {s : ByteArray} {x r : RW} {put : Bool} {R : List RW} {k : Nat} {o : List RW × Bool} (h : o = (R.take k).foldl (rstep s x) ([], put)) (hr : R[k]? = some r) : rstep s x o r = (R.take (k + 1)).foldl (rstep s x) ([], put) := by
  rw [List.take_add_one, hr, List.foldl_append, ← h]; rfl
theorem rstep_1 {s : ByteArray} {x r : RW} {o : List RW} {pt : Bool} (hp : (!pt) = true) (hl : (!Op.bytesLess r.name.toList s.toList) = true) (hn : r.name ≠ s) : rstep s x (o, pt) r = (o ++ [x] ++ [r], true) := by
  have h2 : (!lessB r.name s) = true := hl
  have hq : (if (!pt) = true ∧ (!lessB r.name s) = true then (o ++ [x], true) else (o, pt)) = (o ++ [x], true) := if_pos ⟨hp, h2⟩
  show (if r.name = s then (if (!pt) = true ∧ (!lessB r.name s) = true then (o ++ [x], true) else (o, pt)).1 else (if (!pt) = true ∧ (!lessB r.name s) = true then (o ++ [x], true) else (o, pt)).1 ++ [r], (if (!pt) = true ∧ (!lessB r.name s) = true then (o ++ [x], true) else (o, pt)).2) = _
  rw [hq, if_neg hn]
theorem rstep_1e {s : ByteArray} {x r : RW} {o : List RW} {pt : Bool} (hp : (!pt) = true) (hl : (!Op.bytesLess r.name.toList s.toList) = true) (hn : r.name = s) : rstep s x (o, pt) r = (o ++ [x], true) := by
  have h2 : (!lessB r.name s) = true := hl
  have hq : (if (!pt) = true ∧ (!lessB r.name s) = true then (o ++ [x], true) else (o, pt)) = (o ++ [x], true) := if_pos ⟨hp, h2⟩
  show (if r.name = s then (if (!pt) = true ∧ (!lessB r.name s) = true then (o ++ [x], true) else (o, pt)).1 else (if (!pt) = true ∧ (!lessB r.name s) = true then (o ++ [x], true) else (o, pt)).1 ++ [r], (if (!pt) = true ∧ (!lessB r.name s) = true then (o ++ [x], true) else (o, pt)).2) = _
  rw [hq, if_pos hn]
theorem rstep_2 {s : ByteArray} {x r : RW} {o : List RW} {pt : Bool} (hl : (!Op.bytesLess r.name.toList s.toList) = false) (hn : r.name ≠ s) : rstep s x (o, pt) r = (o ++ [r], pt) := by
  have h2 : (!lessB r.name s) = false := hl
  have hq : (if (!pt) = true ∧ (!lessB r.name s) = true then (o ++ [x], true) else (o, pt)) = (o, pt) := if_neg (fun h => by rw [h2] at h; exact absurd h.2 (by decide))
  show (if r.name = s then (if (!pt) = true ∧ (!lessB r.name s) = true then (o ++ [x], true) else (o, pt)).1 else (if (!pt) = true ∧ (!lessB r.name s) = true then (o ++ [x], true) else (o, pt)).1 ++ [r], (if (!pt) = true ∧ (!lessB r.name s) = true then (o ++ [x], true) else (o, pt)).2) = _
  rw [hq, if_neg hn]
theorem rstep_3 {s : ByteArray} {x r : RW} {o : List RW} {pt : Bool} (hp : ¬ (!pt) = true) (hn : r.name ≠ s) : rstep s x (o, pt) r = (o ++ [r], pt) := by
  have hq : (if (!pt) = true ∧ (!lessB r.name s) = true then (o ++ [x], true) else (o, pt)) = (o, pt) := if_neg (fun h => hp h.1)
  show (if r.name = s then (if (!pt) = true ∧ (!lessB r.name s) = true then (o ++ [x], true) else (o, pt)).1 else (if (!pt) = true ∧ (!lessB r.name s) = true then (o ++ [x], true) else (o, pt)).1 ++ [r], (if (!pt) = true ∧ (!lessB r.name s) = true then (o ++ [x], true) else (o, pt)).2) = _
  rw [hq, if_neg hn]
theorem rstep_3e {s : ByteArray} {x r : RW} {o : List RW} {pt : Bool} (hp : ¬ (!pt) = true) (hn : r.name = s) : rstep s x (o, pt) r = (o, pt) := by
  have hq : (if (!pt) = true ∧ (!lessB r.name s) = true then (o ++ [x], true) else (o, pt)) = (o, pt) := if_neg (fun h => hp h.1)
  show (if r.name = s then (if (!pt) = true ∧ (!lessB r.name s) = true then (o ++ [x], true) else (o, pt)).1 else (if (!pt) = true ∧ (!lessB r.name s) = true then (o ++ [x], true) else (o, pt)).1 ++ [r], (if (!pt) = true ∧ (!lessB r.name s) = true then (o ++ [x], true) else (o, pt)).2) = _
  rw [hq, if_pos hn]
theorem rins_end {s : ByteArray} {x : RW} {put pt : Bool} {R o : List RW} {k : Nat} (h : (o, pt) = (R.take k).foldl (rstep s x) ([], put)) (hk : R.length ≤ k) : rins s x put R = if pt = true then o else o ++ [x] := by
  rw [List.take_of_length_le hk] at h
  unfold rins
  rw [← h]
def insL (s : ByteArray) (x : RW) : List RW → List RW
  | [] => [x]
  | r :: l => if lessB r.name s = true then r :: insL s x l else x :: (r :: l).filter fun r => decide (r.name ≠ s)
theorem fold_put (s : ByteArray) (x : RW) : ∀ (R acc : List RW), R.foldl (rstep s x) (acc, true) = (acc ++ R.filter (fun r => decide (r.name ≠ s)), true)
  | [], acc => by simp
  | r :: l, acc => by
    rw [List.foldl_cons]
    have h1 : rstep s x (acc, true) r = (if r.name = s then acc else acc ++ [r], true) := by simp [rstep]
    rw [h1, fold_put s x l]
    by_cases h : r.name = s
    · rw [if_pos h, List.filter_cons_of_neg (p := fun r : RW => decide (r.name ≠ s)) (fun k => (of_decide_eq_true k) h)]
    · rw [if_neg h, List.filter_cons_of_pos (p := fun r : RW => decide (r.name ≠ s)) (decide_eq_true h), List.append_assoc]; rfl
theorem less_ne0 {a b : ByteArray} (h : (!Op.bytesLess a.toList b.toList) = false) : a ≠ b := fun e => by
  subst e
  have h2 : lessB a a = true := by unfold lessB; simpa using h
  exact lessB_iff.1 h2 (List.le_refl _)
theorem less_ne {a b : ByteArray} (h : lessB a b = true) : a ≠ b := fun e => by
  subst e
  exact lessB_iff.1 h (List.le_refl _)
theorem fold_ins (s : ByteArray) (x : RW) : ∀ (R acc : List RW), (let p := R.foldl (rstep s x) (acc, false); if p.2 = true then p.1 else p.1 ++ [x]) = acc ++ insL s x R
  | [], acc => by simp [insL]
  | r :: l, acc => by
    rw [List.foldl_cons]
    by_cases hl : lessB r.name s = true
    · have h1 : rstep s x (acc, false) r = (acc ++ [r], false) := by simp [rstep, hl, less_ne hl]
      rw [h1, fold_ins s x l, insL, if_pos hl, List.append_assoc]; rfl
    · have h1 : rstep s x (acc, false) r = (if r.name = s then acc ++ [x] else acc ++ [x] ++ [r], true) := by simp [rstep, hl]
      rw [h1, fold_put, insL, if_neg hl]
      simp only [if_true]
      by_cases h : r.name = s
      · rw [if_pos h, List.filter_cons_of_neg (p := fun r : RW => decide (r.name ≠ s)) (fun k => (of_decide_eq_true k) h)]; simp
      · rw [if_neg h, List.filter_cons_of_pos (p := fun r : RW => decide (r.name ≠ s)) (decide_eq_true h)]; simp
theorem rins_t (s : ByteArray) (x : RW) (R : List RW) : rins s x true R = R.filter fun r => decide (r.name ≠ s) := by
  unfold rins
  rw [fold_put]; simp
theorem rins_f (s : ByteArray) (x : RW) (R : List RW) : rins s x false R = insL s x R := by
  have := fold_ins s x R []
  simpa [rins] using this
theorem insL_perm (s : ByteArray) (x : RW) : ∀ (R : List RW), (insL s x R).Perm (x :: R.filter fun r => decide (r.name ≠ s))
  | [] => List.Perm.refl _
  | r :: l => by
    unfold insL
    split
    · rename_i h
      rw [List.filter_cons_of_pos (p := fun r : RW => decide (r.name ≠ s)) (decide_eq_true (less_ne h))]
      exact ((insL_perm s x l).cons r).trans (List.Perm.swap _ _ _)
    · exact List.Perm.refl _
/-- ascending -/
def RAs (R : List RW) : Prop := R.Pairwise fun a b => bleq a.name b.name
theorem insL_as {s : ByteArray} {x : RW} (hx : x.name = s) : ∀ {R : List RW}, RAs R → RAs (insL s x R)
  | [], _ => List.pairwise_singleton _ _
  | r :: l, h => by
    have hl := List.pairwise_cons.1 h
    unfold insL
    split
    · rename_i hlt
      refine List.pairwise_cons.2 ⟨fun y hy => ?_, insL_as hx hl.2⟩
      rcases List.mem_cons.1 ((insL_perm s x l).mem_iff.1 hy) with rfl | hy
      · rw [hx]
        exact (bleq_total r.name s).resolve_right (lessB_iff.1 hlt)
      · exact hl.1 y (List.mem_filter.1 hy).1
    · rename_i hnl
      have hle : bleq s r.name := Classical.not_not.1 fun hh => hnl (lessB_iff.2 hh)
      refine List.pairwise_cons.2 ⟨fun y hy => ?_, h.sublist List.filter_sublist⟩
      rw [hx]
      rcases List.mem_cons.1 (List.mem_filter.1 hy).1 with rfl | hy
      · exact hle
      · exact bleq_trans hle (hl.1 y hy)
theorem perm_ix {α : Type} : ∀ {l : List α} {k : Nat} (hk : k < l.length), l.Perm (l[k] :: l.eraseIdx k)
  | x :: l, 0, _ => List.Perm.refl _
  | x :: l, k + 1, h => ((perm_ix (l := l) (k := k) (by simpa using h)).cons x).trans (List.Perm.swap _ _ _)
theorem rins_mem {s : ByteArray} {x : RW} {p : Bool} {R : List RW} : ∀ z ∈ rins s x p R, z ∈ x :: R := fun z hz => by
  cases p with
  | true => rw [rins_t] at hz; exact List.mem_cons_of_mem _ (List.mem_filter.1 hz).1
  | false =>
    rw [rins_f] at hz
    rcases List.mem_cons.1 ((insL_perm s x R).mem_iff.1 hz) with rfl | h
    · exact List.mem_cons_self ..
    · exact List.mem_cons_of_mem _ (List.mem_filter.1 h).1
/-! ### in step with the program's table -/
def rT (r : RW) : Row3 := (r.name, r.h, r.lg.reverse)
structure Kp (T : List Row3) (R : List RW) : Prop where
  perm : (R.map rT).Perm T
  asc : RAs R
  uq : RUq R
theorem Kp.nil : Kp [] [] := ⟨List.Perm.refl _, List.Pairwise.nil, List.Pairwise.nil⟩
theorem pw_eq {T : List Row3} (hu : T.Pairwise fun a b => a.1 ≠ b.1) {x y : Row3} (hx : x ∈ T) (hy : y ∈ T) (he : x.1 = y.1) : x = y := by
  obtain ⟨i, hi, rfl⟩ := List.mem_iff_getElem.1 hx
  obtain ⟨j, hj, rfl⟩ := List.mem_iff_getElem.1 hy
  rcases Nat.lt_trichotomy i j with hl | hl | hl
  · exact absurd he (List.pairwise_iff_getElem.1 hu i j hi hj hl)
  · subst hl; rfl
  · exact absurd he.symm (List.pairwise_iff_getElem.1 hu j i hj hi hl)
theorem Kp.uT {T : List Row3} {R : List RW} (h : Kp T R) : T.Pairwise fun a b => a.1 ≠ b.1 := by
  refine (h.perm.pairwise_iff (fun {_ _} hne => Ne.symm hne)).1 ?_
  rw [List.pairwise_map]; exact h.uq
theorem Kp.fnd {T : List Row3} {R : List RW} (h : Kp T R) {k : Nat} {r : RW} (hr : R[k]? = some r) : Go.V.fnd T r.name = some (rT r) := by
  have h1 : rT r ∈ T := h.perm.mem_iff.1 (List.mem_map.2 ⟨r, List.mem_of_getElem? hr, rfl⟩)
  cases hf : Go.V.fnd T r.name with
  | some x =>
    have hn : x.1 = r.name := of_decide_eq_true (List.find?_some (p := fun q : Row3 => decide (q.1 = r.name)) hf)
    rw [pw_eq h.uT (List.mem_of_find?_eq_some hf) h1 hn]
  | none => exact absurd rfl (fnd_none.1 hf _ h1)
theorem Kp.out {T : List Row3} {R : List RW} (h : Kp T R) {s : ByteArray} (hr : ∀ x ∈ R, x.name ≠ s) : Go.V.fnd T s = none := fnd_none.2 fun t ht => by
  obtain ⟨r, hr', rfl⟩ := List.mem_map.1 (h.perm.mem_iff.2 ht)
  exact hr r hr'
theorem Kp.len {T : List Row3} {R : List RW} (h : Kp T R) : R.length = T.length := by simpa using h.perm.length_eq
theorem uq_of {T : List Row3} {R : List RW} (h : (R.map rT).Perm T) (hT : T.Pairwise fun a b => a.1 ≠ b.1) : RUq R := by
  have h1 := (h.symm.pairwise_iff (R := fun a b : Row3 => a.1 ≠ b.1) (fun {_ _} hne => Ne.symm hne)).1 hT
  rw [List.pairwise_map] at h1; exact h1
/-- a name gone -/
theorem Kp.rem {T : List Row3} {R : List RW} (h : Kp T R) (s : ByteArray) : Kp (remM T s) (R.filter fun r => decide (r.name ≠ s)) := by
  refine ⟨?_, h.asc.sublist List.filter_sublist, h.uq.sublist List.filter_sublist⟩
  have h1 := h.perm.filter (fun r : Row3 => decide (r.1 ≠ s))
  rw [List.filter_map] at h1
  exact h1
/-- a name put in -/
theorem Kp.add {T : List Row3} {R : List RW} (h : Kp T R) {s : ByteArray} {y : Int} {r : RW} (hr : rT r = (s, y, [])) (hn : ∀ x ∈ R, x.name ≠ s) : Kp (T ++ [(s, y, [])]) (insL s r R) := by
  have hs : r.name = s := congrArg (fun t : Row3 => t.1) hr
  have hp : ((insL s r R).map rT).Perm (T ++ [(s, y, [])]) := by
    have h1 := (insL_perm s r R).map rT
    rw [List.filter_eq_self.2 (fun x hx => decide_eq_true (hn x hx)), List.map_cons, hr] at h1
    exact h1.trans ((h.perm.cons _).trans (List.perm_append_comm (l₁ := [(s, y, [])])))
  refine ⟨hp, insL_as hs h.asc, uq_of hp ?_⟩
  refine List.pairwise_append.2 ⟨h.uT, List.pairwise_singleton _ _, fun a ha b hb => ?_⟩
  simp only [List.mem_singleton] at hb; subst hb
  obtain ⟨x, hx, rfl⟩ := List.mem_map.1 (h.perm.mem_iff.2 ha)
  exact hn x hx
/-- another handle -/
theorem Kp.chg {T : List Row3} {R : List RW} (h : Kp T R) {s : ByteArray} {x y : Int} {k : Nat} {r r' : RW} (hk : R[k]? = some r) (hs : r.name = s) (hr : rT r' = (s, y, lgn r.lg.reverse x)) : Kp (chgM T s x y) (insL s r' R) := by
  have hs' : r'.name = s := congrArg (fun t : Row3 => t.1) hr
  have hp : ((insL s r' R).map rT).Perm (chgM T s x y) := by
    have h1 := (insL_perm s r' R).map rT
    rw [List.map_cons, hr] at h1
    refine h1.trans ?_
    have h2 : (chgM (R.map rT) s x y).Perm (chgM T s x y) := h.perm.map _
    refine List.Perm.trans ?_ h2
    have h3 : R.Perm (r :: R.filter fun r => decide (r.name ≠ s)) := by
      have e1 : R.filter (fun r => decide (r.name ≠ s)) = R.eraseIdx k := by
        have hu := h.uq
        clear h h1 h2
        induction R generalizing k with
        | nil => simp at hk
        | cons u l ih =>
          have hl := List.pairwise_cons.1 hu
          cases k with
          | zero =>
            simp at hk; subst hk
            rw [List.filter_cons_of_neg (p := fun r : RW => decide (r.name ≠ s)) (fun k => (of_decide_eq_true k) hs)]
            exact List.filter_eq_self.2 fun z hz => decide_eq_true fun e => hl.1 z hz (hs.trans e.symm)
          | succ k =>
            simp at hk
            have h4 := hl.1 r (List.mem_of_getElem? hk)
            rw [List.filter_cons_of_pos (p := fun r : RW => decide (r.name ≠ s)) (decide_eq_true (hs ▸ h4)), List.eraseIdx_cons_succ, ih hk hl.2]
      rw [e1]
      have hl := (List.getElem?_eq_some_iff.1 hk).1
      have he : R[k] = r := (List.getElem?_eq_some_iff.1 hk).2
      rw [← he]
      exact perm_ix hl
    have h4 : (chgM (R.map rT) s x y).Perm (chgM ((r :: R.filter fun r => decide (r.name ≠ s)).map rT) s x y) := (h3.map rT).map _
    refine List.Perm.trans ?_ h4.symm
    refine List.Perm.of_eq ?_
    unfold chgM
    rw [List.map_cons, List.map_cons, if_pos (show (rT r).1 = s from hs)]
    congr 1
    · show (s, y, lgn r.lg.reverse x) = (r.name, y, lgn r.lg.reverse x)
      rw [hs]
    · rw [List.map_map]
      refine List.map_congr_left fun z hz => ?_
      have hz2 : z.name ≠ s := of_decide_eq_true (List.mem_filter.1 hz).2
      simp only [Function.comp_def]
      rw [if_neg (show ¬ (rT z).1 = s from hz2)]
  refine ⟨hp, insL_as hs' h.asc, uq_of hp ?_⟩
  unfold chgM
  rw [List.pairwise_map]
  exact h.uT.imp fun {a b} hne => by split <;> split <;> exact hne
theorem lgn_take {l : List Int} {x : Int} (h : l.length ≤ 16) : lgn l.reverse x = (List.take (min (l.length + 1) 16) ([x] ++ l)).reverse := by
  unfold lgn
  rw [show l.reverse ++ [x] = ([x] ++ l).reverse by simp, List.drop_reverse, List.length_reverse]
  congr 1
  rw [show ([x] ++ l).length = l.length + 1 by simp]
  by_cases hl : l.length ≤ 15
  · rw [show l.length + 1 - 16 = 0 by omega, Nat.sub_zero, Nat.min_eq_left (by omega)]
  · rw [show l.length + 1 - (l.length + 1 - 16) = 16 by omega, Nat.min_eq_right (by omega)]
/-- what Set asks of the program's table -/
structure TG (T : List Row3) : Prop where
  nz : ∀ t ∈ T, t.2.1 ≠ 0
  lgs : ∀ t ∈ T, t.2.2.length ≤ 16
  num : T.length ≤ 256
theorem TOk.tg {xs : List NB} {q : Nat} (h : TOk xs q) : TG (List.map ab xs) := ⟨fun t ht => by
  obtain ⟨x, hx, rfl⟩ := List.mem_map.1 ht; exact h.nz x hx, fun t ht => by
  obtain ⟨x, hx, rfl⟩ := List.mem_map.1 ht; exact h.lgs x hx, by rw [List.length_map]; exact h.num⟩
theorem Kp.mem {T : List Row3} {R : List RW} (h : Kp T R) {k : Nat} {r : RW} (hr : R[k]? = some r) : rT r ∈ T := h.perm.mem_iff.1 (List.mem_map.2 ⟨r, List.mem_of_getElem? hr, rfl⟩)
theorem Kp.get {T : List Row3} {R : List RW} (h : Kp T R) {k : Nat} {r : RW} {s : ByteArray} (hr : R[k]? = some r) (hn : r.name = s) : getH T s = r.h ∧ getB T s = true ∧ logM T s = r.lg := by
  subst hn
  obtain ⟨h1, h2, h3⟩ := getH_some (h.fnd hr)
  exact ⟨h1, h2, by rw [h3]; exact List.reverse_reverse _⟩
/-- the names and handles -/
def rN (R : List RW) : List (ByteArray × Int) := R.map fun r => (r.name, r.h)
theorem rN_at {R : List RW} {k : Nat} {r : RW} (h : R[k]? = some r) : (rN R)[k]? = some (r.name, r.h) := by rw [rN, List.getElem?_map, h]; rfl
theorem rN_len (R : List RW) : (rN R).length = R.length := List.length_map _
theorem Kp.rN {xs : List NB} {R : List RW} (h : Kp (List.map ab xs) R) : (Go.V.rN R).Perm (List.map nh xs) := by
  have h1 := h.perm.map nh3
  rw [nh_ab, List.map_map] at h1
  exact h1
theorem Kp.srt {T : List Row3} {R : List RW} (h : Kp T R) : Srt (Go.V.rN R) := by
  unfold Srt Go.V.rN
  rw [List.pairwise_map]; exact h.asc
end Go.V
