/-
  Plain theory of the differences of two trees: parts of a traversal, changes.
  Conditions: none.
-/
import Derived.Test.YtlnlnebibgdjdaaTra
namespace Go.V
open Go Go.RowKit

/-- a part of a traversal: a subtree, or one entry -/
inductive Pt where
  | sub (i : Int) (t : Tr)
  | one (k v : Int)
def ptC : Pt → List Value
  | .sub i t => [.int .u32 i, .int .i64 (t.n : Int), .int .i64 0, .int .i64 0, .bool false]
  | .one k v => [.int .u32 0, .int .i64 0, .int .i64 k, .int .i64 v, .bool true]
def pts (l : List Pt) : List (List Value) := l.map ptC
@[simp] theorem pts_len (l : List Pt) : (pts l).length = l.length := by simp [pts]
theorem pts_app (l m : List Pt) : pts (l ++ m) = pts l ++ pts m := by simp [pts]
theorem pts_snoc (l : List Pt) (x : Pt) : pts l ++ [ptC x] = pts (l ++ [x]) := by simp [pts]
theorem pts_take (l : List Pt) (k : Nat) : (pts l).take k = pts (l.take k) := by simp [pts]
theorem pts_ok (l : List Pt) : OkE 5 (pts l) := fun x hx => by
  obtain ⟨y, _, rfl⟩ := List.mem_map.1 hx
  cases y
  · exact ⟨rfl, fun u hu => by simp [ptC] at hu; rcases hu with rfl | rfl | rfl | rfl | rfl <;> rfl⟩
  · exact ⟨rfl, fun u hu => by simp [ptC] at hu; rcases hu with rfl | rfl | rfl | rfl | rfl <;> rfl⟩
/-- the fields of the part on top, zero if there is none -/
def pI : Option Pt → Int
  | some (.sub i _) => i
  | _ => 0
def pN : Option Pt → Int
  | some (.sub _ t) => t.n
  | _ => 0
def pK : Option Pt → Int
  | some (.one k _) => k
  | _ => 0
def pV : Option Pt → Int
  | some (.one _ v) => v
  | _ => 0
def pS : Option Pt → Bool
  | some (.one _ _) => true
  | _ => false
def topP (P : List Pt) : Option Pt := P.getLast?
theorem pts_at {l : List Pt} {k : Nat} {x : Pt} (h : l[k]? = some x) : (pts l)[k]? = some [.int .u32 (pI (some x)), .int .i64 (pN (some x)), .int .i64 (pK (some x)), .int .i64 (pV (some x)), .bool (pS (some x))] := by
  cases x <;> simp [pts, h, ptC, pI, pN, pK, pV, pS]
/-- what is still to come, the top first -/
def ptL : Pt → Kvs
  | .sub _ t => t.ls
  | .one k v => [(k, v)]
def rem (P : List Pt) : Kvs := (P.reverse.map ptL).flatten
theorem rem_snoc (P : List Pt) (x : Pt) : rem (P ++ [x]) = ptL x ++ rem P := by simp [rem]
def ptW : Pt → Nat
  | .sub _ t => 3 * t.n
  | .one _ _ => 1
def wgt (P : List Pt) : Nat := (P.map ptW).sum
theorem wgt_snoc (P : List Pt) (x : Pt) : wgt (P ++ [x]) = wgt P + ptW x := by simp [wgt]
def PtOk (A : AM) : Pt → Prop
  | .sub i t => Is A t i ∧ i ≠ 0
  | .one _ _ => True
/-- the parts of a traversal are in order -/
structure PsOk (A : AM) (P : List Pt) : Prop where
  ok : ∀ x ∈ P, PtOk A x
theorem PsOk.app {A : AM} {P : List Pt} (h : PsOk A P) {x : Pt} (hx : PtOk A x) : PsOk A (P ++ [x]) := ⟨fun y hy => by
  rcases List.mem_append.1 hy with hy | hy
  · exact h.ok y hy
  · rw [List.mem_singleton.1 hy]; exact hx⟩
theorem PsOk.sub {A : AM} {P Q : List Pt} (h : PsOk A (P ++ Q)) : PsOk A P := ⟨fun y hy => h.ok y (List.mem_append_left _ hy)⟩
/-- pushing a subtree -/
def pushP (P : List Pt) (i : Int) (t : Tr) : List Pt := if i = 0 then P else P ++ [.sub i t]
theorem pushP_rem {A : AM} {P : List Pt} {i : Int} {t : Tr} (h : Is A t i) : rem (pushP P i t) = t.ls ++ rem P := by
  unfold pushP
  split
  · rename_i e; rw [(Is.nil_iff h).1 e]; rfl
  · rw [rem_snoc]; rfl
theorem pushP_wgt {A : AM} {P : List Pt} {i : Int} {t : Tr} (h : Is A t i) : wgt (pushP P i t) = wgt P + 3 * t.n := by
  unfold pushP
  split
  · rename_i e; rw [(Is.nil_iff h).1 e]; rfl
  · rw [wgt_snoc]; rfl
theorem pushP_ok {A : AM} {P : List Pt} {i : Int} {t : Tr} (hP : PsOk A P) (h : Is A t i) : PsOk A (pushP P i t) := by
  unfold pushP
  split
  · exact hP
  · rename_i e; exact hP.app ⟨h, e⟩
theorem pushP_len (P : List Pt) (i : Int) (t : Tr) : (pushP P i t).length ≤ P.length + 1 := by
  unfold pushP; split <;> simp
/-- the parts of a subtree -/
def expP (P : List Pt) (A : AM) (i k v : Int) (l r : Tr) : List Pt := pushP (pushP P (A.nd i).rg r ++ [.one k v]) (A.nd i).lf l
theorem expP_rem {A : AM} {P : List Pt} {i k v : Int} {l r : Tr} (h : Is A (.node l k v r) i) : rem (expP P A i k v l r) = (Tr.node l k v r).ls ++ rem P := by
  unfold expP
  rw [pushP_rem h.2.2.2.2.1, rem_snoc, pushP_rem h.2.2.2.2.2]
  simp [ptL, Tr.ls]
theorem expP_wgt {A : AM} {P : List Pt} {i k v : Int} {l r : Tr} (h : Is A (.node l k v r) i) : wgt (expP P A i k v l r) + 2 = wgt P + ptW (.sub i (.node l k v r)) := by
  unfold expP
  rw [pushP_wgt h.2.2.2.2.1, wgt_snoc, pushP_wgt h.2.2.2.2.2]
  simp only [ptW, Tr.n]; omega
theorem expP_ok {A : AM} {P : List Pt} {i k v : Int} {l r : Tr} (hP : PsOk A P) (h : Is A (.node l k v r) i) : PsOk A (expP P A i k v l r) :=
  pushP_ok ((pushP_ok hP h.2.2.2.2.2).app trivial) h.2.2.2.2.1
theorem wgt_len {A : AM} : ∀ {P : List Pt}, PsOk A P → P.length ≤ wgt P
  | [], _ => by simp
  | x :: P, h => by
    have ih := wgt_len (A := A) (P := P) ⟨fun y hy => h.ok y (List.mem_cons_of_mem _ hy)⟩
    have hx := h.ok x (List.mem_cons_self ..)
    have h1 : 1 ≤ ptW x := by
      cases x with
      | one => simp [ptW]
      | sub i t =>
        have : t ≠ .nil := fun e => hx.2 ((Is.nil_iff hx.1).2 e)
        cases t with
        | nil => exact absurd rfl this
        | node => simp only [ptW, Tr.n]; omega
    simp only [wgt, List.map_cons, List.sum_cons, List.length_cons] at ih ⊢
    omega
/-! ### changes -/
abbrev Chg := Int × Int × Int × Int
def dif : Kvs → Kvs → List Chg
  | [], [] => []
  | [], (k, w) :: r => (1, k, 0, w) :: dif [] r
  | (k, v) :: l, [] => (2, k, v, 0) :: dif l []
  | (k, v) :: l, (k', w) :: r => if k < k' then (2, k, v, 0) :: dif l ((k', w) :: r) else if k' < k then (1, k', 0, w) :: dif ((k, v) :: l) r else if v ≠ w then (3, k, v, w) :: dif l r else dif l r
termination_by l r => l.length + r.length
theorem dif_common (l r : Kvs) : ∀ c : Kvs, dif (c ++ l) (c ++ r) = dif l r
  | [] => rfl
  | (k, v) :: c => by
    rw [List.cons_append, List.cons_append, dif, if_neg (by omega), if_neg (by omega), if_neg (by simp)]
    exact dif_common l r c
theorem dif_keys (l r : Kvs) : ∀ c ∈ dif l r, (∃ x ∈ l, x.1 = c.2.1) ∨ ∃ x ∈ r, x.1 = c.2.1 := by
  fun_induction dif l r
  case case1 => intro c hc; cases hc
  case case2 k w r ih =>
    intro c hc
    rcases List.mem_cons.1 hc with rfl | hc
    · exact .inr ⟨(k, w), by simp, rfl⟩
    · rcases ih c hc with ⟨x, hx, _⟩ | ⟨x, hx, e⟩
      · cases hx
      · exact .inr ⟨x, List.mem_cons_of_mem _ hx, e⟩
  case case3 k v l ih =>
    intro c hc
    rcases List.mem_cons.1 hc with rfl | hc
    · exact .inl ⟨(k, v), by simp, rfl⟩
    · rcases ih c hc with ⟨x, hx, e⟩ | ⟨x, hx, _⟩
      · exact .inl ⟨x, List.mem_cons_of_mem _ hx, e⟩
      · cases hx
  case case4 k v l k' w r h ih =>
    intro c hc
    rcases List.mem_cons.1 hc with rfl | hc
    · exact .inl ⟨(k, v), by simp, rfl⟩
    · rcases ih c hc with ⟨x, hx, e⟩ | h
      · exact .inl ⟨x, List.mem_cons_of_mem _ hx, e⟩
      · exact .inr h
  case case5 k v l k' w r h1 h2 ih =>
    intro c hc
    rcases List.mem_cons.1 hc with rfl | hc
    · exact .inr ⟨(k', w), by simp, rfl⟩
    · rcases ih c hc with h | ⟨x, hx, e⟩
      · exact .inl h
      · exact .inr ⟨x, List.mem_cons_of_mem _ hx, e⟩
  case case6 k v l k' w r h1 h2 h3 ih =>
    intro c hc
    rcases List.mem_cons.1 hc with rfl | hc
    · exact .inl ⟨(k, v), by simp, rfl⟩
    · rcases ih c hc with ⟨x, hx, e⟩ | ⟨x, hx, e⟩
      · exact .inl ⟨x, List.mem_cons_of_mem _ hx, e⟩
      · exact .inr ⟨x, List.mem_cons_of_mem _ hx, e⟩
  case case7 k v l k' w r h1 h2 h3 ih =>
    intro c hc
    rcases ih c hc with ⟨x, hx, e⟩ | ⟨x, hx, e⟩
    · exact .inl ⟨x, List.mem_cons_of_mem _ hx, e⟩
    · exact .inr ⟨x, List.mem_cons_of_mem _ hx, e⟩
/-- the changes of the keys from lo to hi -/
def inR (lo hi : Int) (l : List Chg) : List Chg := l.filter fun c => decide (lo ≤ c.2.1 ∧ c.2.1 ≤ hi)
theorem inR_nil {lo hi : Int} {l r : Kvs} (h1 : ∀ x ∈ l, hi < x.1) (h2 : ∀ x ∈ r, hi < x.1) : inR lo hi (dif l r) = [] := by
  refine List.filter_eq_nil_iff.2 fun c hc => ?_
  rcases dif_keys l r c hc with ⟨x, hx, e⟩ | ⟨x, hx, e⟩
  · have := h1 x hx; simp; omega
  · have := h2 x hx; simp; omega
/-- the change that a pair shows -/
def pChg (k v w : Int) (il ir : Bool) : Option Chg := if il = false then some (1, k, 0, w) else if ir = false then some (2, k, v, 0) else if v ≠ w then some (3, k, v, w) else none
def oneR (lo hi : Int) (c : Option Chg) : List Chg := match c with
  | some c => if lo ≤ c.2.1 ∧ c.2.1 ≤ hi then [c] else []
  | none => []
def goOn (hi : Int) (c : Option Chg) : Bool := match c with
  | some c => decide (c.2.1 < hi)
  | none => true
theorem inR_cons (lo hi : Int) (c : Chg) (l : List Chg) : inR lo hi (c :: l) = oneR lo hi (some c) ++ inR lo hi l := by
  unfold inR oneR
  by_cases h : lo ≤ c.2.1 ∧ c.2.1 ≤ hi
  · rw [List.filter_cons_of_pos (by simpa using h)]; simp [h]
  · rw [List.filter_cons_of_neg (by simpa using h)]; simp [h]
/-! ### the traversal -/
theorem Is.fn {A : AM} : ∀ {t u : Tr} {i : Int}, Is A t i → Is A u i → t = u
  | .nil, .nil, _, _, _ => rfl
  | .nil, .node _ _ _ _, _, h, k => absurd k.1 (by rw [show _ = (0 : Int) from h]; omega)
  | .node _ _ _ _, .nil, _, h, k => absurd h.1 (by rw [show _ = (0 : Int) from k]; omega)
  | .node _ _ _ _, .node _ _ _ _, _, ⟨_, _, h3, h4, h5, h6⟩, ⟨_, _, k3, k4, k5, k6⟩ => by
    rw [Is.fn h5 k5, Is.fn h6 k6, ← h3, ← h4, ← k3, ← k4]
theorem top_split {P : List Pt} {q : Pt} (h : topP P = some q) : P = P.dropLast ++ [q] := by
  have hne : P ≠ [] := fun e => by subst e; cases h
  have h2 : P.getLast hne = q := by
    unfold topP at h
    rw [List.getLast?_eq_some_getLast hne] at h
    exact Option.some.inj h
  rw [← h2]; exact (List.dropLast_concat_getLast hne).symm
theorem top_none {P : List Pt} (h : (topP P).isSome = false) : P = [] := by
  cases ht : topP P with
  | none => exact List.getLast?_eq_none_iff.1 ht
  | some q => rw [ht] at h; cases h
theorem top_ne {P : List Pt} (h : (topP P).isSome = true) : P ≠ [] := fun e => by subst e; cases h
theorem top_sub {P : List Pt} (h : (topP P).isSome = true) (hs : pS (topP P) = false) : ∃ i t, topP P = some (.sub i t) := by
  cases ht : topP P with
  | none => rw [ht] at h; cases h
  | some q =>
    cases q with
    | sub i t => exact ⟨i, t, rfl⟩
    | one k v => rw [ht] at hs; cases hs
theorem top_one {P : List Pt} (h : (topP P).isSome = true) (hs : pS (topP P) = true) : P = P.dropLast ++ [.one (pK (topP P)) (pV (topP P))] ∧ rem P = (pK (topP P), pV (topP P)) :: rem P.dropLast ∧ wgt P = wgt P.dropLast + 1 := by
  cases ht : topP P with
  | none => rw [ht] at h; cases h
  | some q =>
    cases q with
    | sub i t => rw [ht] at hs; cases hs
    | one k v =>
      have h1 := top_split ht
      refine ⟨h1, ?_, ?_⟩
      · show rem P = (k, v) :: rem P.dropLast
        have e := congrArg rem h1
        rw [rem_snoc] at e; exact e
      · have e := congrArg wgt h1
        rw [wgt_snoc] at e; exact e
structure Pv (A : AM) (lo hi : Int) (F : List Chg) (m : Nat) (PL PR : List Pt) (out : List Chg) : Prop where
  oL : PsOk A PL
  oR : PsOk A PR
  sL : Srt (rem PL)
  sR : Srt (rem PR)
  d : out ++ inR lo hi (dif (rem PL) (rem PR)) = F
  w : out.length + wgt PL + wgt PR ≤ m
section
variable {A : AM} {lo hi : Int} {F : List Chg} {m : Nat} {PL PR : List Pt} {out : List Chg}
theorem PsOk.top {P : List Pt} {q : Pt} (h : PsOk A P) (ht : topP P = some q) : PtOk A q ∧ PsOk A P.dropLast := by
  have h1 := top_split ht
  refine ⟨h.ok q (by rw [h1]; simp), ⟨fun y hy => h.ok y ((List.dropLast_sublist _).subset hy)⟩⟩
theorem Pv.both (h : Pv A lo hi F m PL PR out) {i : Int} {t u : Tr} (hl : topP PL = some (.sub i t)) (hr : topP PR = some (.sub i u)) : Pv A lo hi F m PL.dropLast PR.dropLast out ∧ wgt PL.dropLast + wgt PR.dropLast < wgt PL + wgt PR := by
  obtain ⟨a1, a2⟩ := h.oL.top hl
  obtain ⟨b1, b2⟩ := h.oR.top hr
  have e : t = u := Is.fn a1.1 b1.1
  subst e
  have e1 := congrArg rem (top_split hl)
  have e2 := congrArg rem (top_split hr)
  have w1 := congrArg wgt (top_split hl)
  have w2 := congrArg wgt (top_split hr)
  rw [rem_snoc] at e1 e2
  rw [wgt_snoc] at w1 w2
  have h1 := h.sL
  have h2 := h.sR
  have h3 := h.d
  rw [e1] at h1 h3
  rw [e2] at h2 h3
  have hw : 1 ≤ ptW (.sub i t) := by
    have : t ≠ .nil := fun e => a1.2 ((Is.nil_iff a1.1).2 e)
    cases t with
    | nil => exact absurd rfl this
    | node => simp only [ptW, Tr.n]; omega
  refine ⟨⟨a2, b2, (Srt.app h1).2.1, (Srt.app h2).2.1, by rw [← h3, dif_common], by have := h.w; omega⟩, by omega⟩
theorem Pv.expL (h : Pv A lo hi F m PL PR out) {i : Int} {t : Tr} (hl : topP PL = some (.sub i t)) : ∃ k z tl tr, topP PL = some (.sub i (.node tl k z tr)) ∧ Is A (.node tl k z tr) i ∧ Pv A lo hi F m (expP PL.dropLast A i k z tl tr) PR out ∧ wgt (expP PL.dropLast A i k z tl tr) < wgt PL := by
  obtain ⟨a1, a2⟩ := h.oL.top hl
  have e1 := congrArg rem (top_split hl)
  have w1 := congrArg wgt (top_split hl)
  rw [rem_snoc] at e1
  rw [wgt_snoc] at w1
  cases t with
  | nil => exact absurd a1.1 a1.2
  | node tl k z tr =>
    have r1 := expP_rem (P := PL.dropLast) a1.1
    have r2 := expP_wgt (P := PL.dropLast) a1.1
    refine ⟨k, z, tl, tr, hl, a1.1, ⟨expP_ok a2 a1.1, h.oR, by rw [r1]; have := h.sL; rw [e1] at this; exact this, h.sR, by rw [r1]; have := h.d; rw [e1] at this; exact this, by have := h.w; omega⟩, by omega⟩
theorem Pv.expR (h : Pv A lo hi F m PL PR out) {i : Int} {t : Tr} (hl : topP PR = some (.sub i t)) : ∃ k z tl tr, topP PR = some (.sub i (.node tl k z tr)) ∧ Is A (.node tl k z tr) i ∧ Pv A lo hi F m PL (expP PR.dropLast A i k z tl tr) out ∧ wgt (expP PR.dropLast A i k z tl tr) < wgt PR := by
  obtain ⟨a1, a2⟩ := h.oR.top hl
  have e1 := congrArg rem (top_split hl)
  have w1 := congrArg wgt (top_split hl)
  rw [rem_snoc] at e1
  rw [wgt_snoc] at w1
  cases t with
  | nil => exact absurd a1.1 a1.2
  | node tl k z tr =>
    have r1 := expP_rem (P := PR.dropLast) a1.1
    have r2 := expP_wgt (P := PR.dropLast) a1.1
    refine ⟨k, z, tl, tr, hl, a1.1, ⟨h.oL, expP_ok a2 a1.1, h.sL, by rw [r1]; have := h.sR; rw [e1] at this; exact this, by rw [r1]; have := h.d; rw [e1] at this; exact this, by have := h.w; omega⟩, by omega⟩
theorem Pv.done (h : Pv A lo hi F m [] [] out) : out = F := by
  have := h.d
  rw [show rem [] = [] from rfl, dif] at this
  simpa [inR] using this
/-- what a visit does: the change, and what is still to come -/
theorem Pv.go (h : Pv A lo hi F m PL PR out) {PL2 PR2 : List Pt} {k v w : Int} {il ir : Bool} (oL : PsOk A PL2) (oR : PsOk A PR2) (sL : Srt (rem PL2)) (sR : Srt (rem PR2))
    (hd : dif (rem PL) (rem PR) = (pChg k v w il ir).toList ++ dif (rem PL2) (rem PR2)) (hw : wgt PL2 + wgt PR2 + 1 ≤ wgt PL + wgt PR) (g1 : ∀ x ∈ rem PL2, k < x.1) (g2 : ∀ x ∈ rem PR2, k < x.1) (hk : ∀ c, pChg k v w il ir = some c → c.2.1 = k) :
    (goOn hi (pChg k v w il ir) = true → Pv A lo hi F m PL2 PR2 (out ++ oneR lo hi (pChg k v w il ir))) ∧ wgt PL2 + wgt PR2 < wgt PL + wgt PR ∧ (goOn hi (pChg k v w il ir) = false → out ++ oneR lo hi (pChg k v w il ir) = F) := by
  have h1 := h.d
  rw [hd] at h1
  have hol : (oneR lo hi (pChg k v w il ir)).length ≤ 1 := by
    unfold oneR
    split
    · split <;> simp
    · simp
  have h2 : inR lo hi ((pChg k v w il ir).toList ++ dif (rem PL2) (rem PR2)) = oneR lo hi (pChg k v w il ir) ++ inR lo hi (dif (rem PL2) (rem PR2)) := by
    cases hc : pChg k v w il ir with
    | none => rfl
    | some c => exact inR_cons lo hi c _
  rw [h2, ← List.append_assoc] at h1
  refine ⟨fun _ => ⟨oL, oR, sL, sR, h1, by have := h.w; rw [List.length_append]; omega⟩, by omega, fun hg => ?_⟩
  rw [← h1]
  cases hc : pChg k v w il ir with
  | none => rw [hc] at hg; cases hg
  | some c =>
    rw [hc] at hg
    have hck := hk c hc
    have hh : hi ≤ k := by simp [goOn] at hg; omega
    rw [inR_nil (fun x hx => by have := g1 x hx; omega) (fun x hx => by have := g2 x hx; omega), List.append_nil]
theorem pChg_key {k v w : Int} {il ir : Bool} : ∀ c, pChg k v w il ir = some c → c.2.1 = k := fun c hc => by
  unfold pChg at hc
  split at hc
  · cases hc; rfl
  · split at hc
    · cases hc; rfl
    · split at hc
      · cases hc; rfl
      · cases hc
theorem Pv.vLR (h : Pv A lo hi F m PL PR out) (l1 : (topP PL).isSome = true) (l2 : pS (topP PL) = true) (r1 : (topP PR).isSome = true) (r2 : pS (topP PR) = true) (hk : pK (topP PL) = pK (topP PR)) {k v w : Int} (e1 : k = pK (topP PR)) (e2 : v = pV (topP PL)) (e3 : w = pV (topP PR)) :
    (goOn hi (pChg k v w true true) = true → Pv A lo hi F m PL.dropLast PR.dropLast (out ++ oneR lo hi (pChg k v w true true))) ∧ wgt PL.dropLast + wgt PR.dropLast < wgt PL + wgt PR ∧ (goOn hi (pChg k v w true true) = false → out ++ oneR lo hi (pChg k v w true true) = F) := by
  obtain ⟨a1, a2, a3⟩ := top_one l1 l2
  obtain ⟨b1, b2, b3⟩ := top_one r1 r2
  have s1 := h.sL
  have s2 := h.sR
  rw [a2] at s1
  rw [b2] at s2
  obtain ⟨s3, s4⟩ := List.pairwise_cons.1 s1
  obtain ⟨s5, s6⟩ := List.pairwise_cons.1 s2
  refine h.go ⟨fun y hy => h.oL.ok y ((List.dropLast_sublist _).subset hy)⟩ ⟨fun y hy => h.oR.ok y ((List.dropLast_sublist _).subset hy)⟩ s4 s6 ?_ (by omega) (fun x hx => by rw [e1, ← hk]; exact s3 x hx) (fun x hx => by rw [e1]; exact s5 x hx) pChg_key
  have hp : pChg k v w true true = if v ≠ w then some (3, k, v, w) else none := by unfold pChg; rw [if_neg (by simp), if_neg (by simp)]
  rw [hp, a2, b2, hk, dif, if_neg (by omega), if_neg (by omega), e1, e2, e3]
  by_cases hvw : pV (topP PL) ≠ pV (topP PR)
  · rw [if_pos hvw, if_pos hvw]; rfl
  · rw [if_neg hvw, if_neg hvw]; rfl
theorem Pv.vL (h : Pv A lo hi F m PL PR out) (l1 : (topP PL).isSome = true) (l2 : pS (topP PL) = true) (hr : (topP PR).isSome = true → pS (topP PR) = true ∧ pK (topP PL) < pK (topP PR)) {k v w : Int} (e1 : k = pK (topP PL)) (e2 : v = pV (topP PL)) :
    (goOn hi (pChg k v w true false) = true → Pv A lo hi F m PL.dropLast PR (out ++ oneR lo hi (pChg k v w true false))) ∧ wgt PL.dropLast + wgt PR < wgt PL + wgt PR ∧ (goOn hi (pChg k v w true false) = false → out ++ oneR lo hi (pChg k v w true false) = F) := by
  obtain ⟨a1, a2, a3⟩ := top_one l1 l2
  have s1 := h.sL
  rw [a2] at s1
  obtain ⟨s3, s4⟩ := List.pairwise_cons.1 s1
  have hg : ∀ x ∈ rem PR, k < x.1 := fun x hx => by
    cases ht : (topP PR).isSome with
    | false => rw [top_none ht] at hx; cases hx
    | true =>
      obtain ⟨h1, h2⟩ := hr ht
      obtain ⟨_, b2, _⟩ := top_one ht h1
      have s2 := h.sR
      rw [b2] at s2 hx
      rcases List.mem_cons.1 hx with rfl | hx
      · rw [e1]; exact h2
      · have := (List.pairwise_cons.1 s2).1 x hx
        rw [e1]
        exact Int.lt_trans h2 this
  refine h.go ⟨fun y hy => h.oL.ok y ((List.dropLast_sublist _).subset hy)⟩ h.oR s4 h.sR ?_ (by omega) (fun x hx => by rw [e1]; exact s3 x hx) hg pChg_key
  rw [a2]
  have hp : pChg k v w true false = some (2, k, v, 0) := by unfold pChg; rw [if_neg (by simp), if_pos rfl]
  rw [hp, e1, e2]
  cases hq : rem PR with
  | nil => rw [dif]; rfl
  | cons x r =>
    obtain ⟨x1, x2⟩ := x
    have := hg (x1, x2) (by rw [hq]; simp)
    rw [dif, if_pos (by rw [← e1]; exact this)]; rfl
theorem Pv.vR (h : Pv A lo hi F m PL PR out) (r1 : (topP PR).isSome = true) (r2 : pS (topP PR) = true) (hl : (topP PL).isSome = true → pS (topP PL) = true ∧ pK (topP PR) < pK (topP PL)) {k v w : Int} (e1 : k = pK (topP PR)) (e3 : w = pV (topP PR)) :
    (goOn hi (pChg k v w false true) = true → Pv A lo hi F m PL PR.dropLast (out ++ oneR lo hi (pChg k v w false true))) ∧ wgt PL + wgt PR.dropLast < wgt PL + wgt PR ∧ (goOn hi (pChg k v w false true) = false → out ++ oneR lo hi (pChg k v w false true) = F) := by
  obtain ⟨b1, b2, b3⟩ := top_one r1 r2
  have s2 := h.sR
  rw [b2] at s2
  obtain ⟨s5, s6⟩ := List.pairwise_cons.1 s2
  have hg : ∀ x ∈ rem PL, k < x.1 := fun x hx => by
    cases ht : (topP PL).isSome with
    | false => rw [top_none ht] at hx; cases hx
    | true =>
      obtain ⟨h1, h2⟩ := hl ht
      obtain ⟨_, a2, _⟩ := top_one ht h1
      have s1 := h.sL
      rw [a2] at s1 hx
      rcases List.mem_cons.1 hx with rfl | hx
      · rw [e1]; exact h2
      · have := (List.pairwise_cons.1 s1).1 x hx
        rw [e1]
        exact Int.lt_trans h2 this
  refine h.go h.oL ⟨fun y hy => h.oR.ok y ((List.dropLast_sublist _).subset hy)⟩ h.sL s6 ?_ (by omega) hg (fun x hx => by rw [e1]; exact s5 x hx) pChg_key
  rw [b2]
  have hp : pChg k v w false true = some (1, k, 0, w) := by unfold pChg; rw [if_pos rfl]
  rw [hp, e1, e3]
  cases hq : rem PL with
  | nil => rw [dif]; rfl
  | cons x r =>
    obtain ⟨x1, x2⟩ := x
    have := hg (x1, x2) (by rw [hq]; simp)
    rw [dif, if_neg (by rw [e1] at this; exact Int.not_lt.2 (Int.le_of_lt this)), if_pos (by rw [← e1]; exact this)]; rfl
end
theorem b_both {a b sl sr : Bool} {p : Prop} [Decidable p] (h : (bif (bif (bif (bif a then b else false) then (!sl) else false) then (!sr) else false) then decide p else false) = true) : a = true ∧ b = true ∧ sl = false ∧ sr = false ∧ p := by
  cases a <;> cases b <;> cases sl <;> cases sr <;> simp_all
theorem b_left {a b sl sr : Bool} {p : Prop} [Decidable p] (h : (bif (bif a then (!sl) else false) then (bif (bif (!b) then true else sr) then true else decide p) else false) = true) : a = true ∧ sl = false := by
  cases a <;> cases sl <;> simp_all
theorem b_right {b sr : Bool} (h : (bif b then (!sr) else false) = true) : b = true ∧ sr = false := by
  cases b <;> cases sr <;> simp_all
theorem b_ones {a b sl sr : Bool} {p : Prop} [Decidable p] (h1 : (bif (!a) then (!b) else false) = false) (h3 : (bif (bif a then (!sl) else false) then (bif (bif (!b) then true else sr) then true else decide p) else false) = false) (h4 : (bif b then (!sr) else false) = false) : (a = true → sl = true) ∧ (b = true → sr = true) ∧ (a = false → b = true) := by
  cases a <;> cases b <;> cases sl <;> cases sr <;> simp_all
end Go.V
