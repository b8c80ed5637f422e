/-
  Histories: lists of events, origins, lists of lists as they lie in memory; the events of a chain; performing them.
  Conditions: none.
-/
import Derived.Test.YtlnlnebibgdjdaaDfk
import Derived.Test.YtlnlnebibgdjdaaPm
import Derived.Test.YtlnlnebibgdjdaaEgb
namespace Go.V
open Go Go.RowKit

abbrev Ev := Int × Int × Int × Int × Int
def ev5 (l : List Ev) : List (List Value) := l.map fun x => [.int .i64 x.1, .int .i64 x.2.1, .int .i64 x.2.2.1, .int .i64 x.2.2.2.1, .int .i64 x.2.2.2.2]
@[simp] theorem ev5_len (l : List Ev) : (ev5 l).length = l.length := by simp [ev5]
theorem ev5_at {l : List Ev} {k : Nat} {x : Ev} (h : l[k]? = some x) : (ev5 l)[k]? = some [.int .i64 x.1, .int .i64 x.2.1, .int .i64 x.2.2.1, .int .i64 x.2.2.2.1, .int .i64 x.2.2.2.2] := by simp [ev5, h]
theorem ev5_app (l m : List Ev) : ev5 (l ++ m) = ev5 l ++ ev5 m := by simp [ev5]
theorem ev5_take (l : List Ev) (k : Nat) : (ev5 l).take k = ev5 (l.take k) := by simp [ev5]
theorem ev5_drop (l : List Ev) (k : Nat) : (ev5 l).drop k = ev5 (l.drop k) := by simp [ev5]
theorem ev5_nil : ev5 [] = [] := rfl
theorem ev5_snoc (l : List Ev) (x : Ev) : ev5 l ++ [[.int .i64 x.1, .int .i64 x.2.1, .int .i64 x.2.2.1, .int .i64 x.2.2.2.1, .int .i64 x.2.2.2.2]] = ev5 (l ++ [x]) := by simp [ev5]
theorem ev5_ok (l : List Ev) : OkE 5 (ev5 l) := fun x hx => by
  obtain ⟨y, _, rfl⟩ := List.mem_map.1 hx
  exact ⟨rfl, fun u hu => by simp at hu; rcases hu with rfl | rfl | rfl | rfl | rfl <;> rfl⟩
abbrev Or := Int × Int × Int
def or3 (l : List Or) : List (List Value) := l.map fun x => [.int .i64 x.1, .int .i64 x.2.1, .int .i64 x.2.2]
@[simp] theorem or3_len (l : List Or) : (or3 l).length = l.length := by simp [or3]
theorem or3_at {l : List Or} {k : Nat} {x : Or} (h : l[k]? = some x) : (or3 l)[k]? = some [.int .i64 x.1, .int .i64 x.2.1, .int .i64 x.2.2] := by simp [or3, h]
theorem or3_app (l m : List Or) : or3 (l ++ m) = or3 l ++ or3 m := by simp [or3]
theorem or3_nil : or3 [] = [] := rfl
theorem or3_snoc (l : List Or) (x : Or) : or3 l ++ [[.int .i64 x.1, .int .i64 x.2.1, .int .i64 x.2.2]] = or3 (l ++ [x]) := by simp [or3]
theorem or3_ok (l : List Or) : OkE 3 (or3 l) := fun x hx => by
  obtain ⟨y, _, rfl⟩ := List.mem_map.1 hx
  exact ⟨rfl, fun u hu => by simp at hu; rcases hu with rfl | rfl | rfl <;> rfl⟩
/-- a list as an element of a list of lists -/
structure LsE where
  es : Kvs
  a : Option Addr
  c : Nat
def enL (l : List LsE) : List (List Value) := l.map fun x => [.slice x.a (en2 x.es).length x.c]
@[simp] theorem enL_len (l : List LsE) : (enL l).length = l.length := by simp [enL]
theorem enL_at {l : List LsE} {k : Nat} {x : LsE} (h : l[k]? = some x) : (enL l)[k]? = some [.slice x.a (en2 x.es).length x.c] := by simp [enL, h]
theorem enL_app (l m : List LsE) : enL (l ++ m) = enL l ++ enL m := by simp [enL]
theorem enL_nil : enL [] = [] := rfl
theorem enL_snoc (l : List LsE) (x : LsE) : enL l ++ [[.slice x.a (en2 x.es).length x.c]] = enL (l ++ [x]) := by simp [enL]
theorem enL_ok (l : List LsE) : OkE 1 (enL l) := fun x hx => by
  obtain ⟨y, _, rfl⟩ := List.mem_map.1 hx
  exact ⟨rfl, fun u hu => by simp at hu; subst hu; rfl⟩
/-! ### changes -/
theorem dif_len (l r : Kvs) : (dif l r).length ≤ l.length + r.length := by
  fun_induction dif l r <;> simp only [List.length_cons, List.length_nil] at * <;> omega
def kvR (l : Kvs) : Prop := ∀ x ∈ l, -9223372036854775808 ≤ x.1 ∧ x.1 ≤ 9223372036854775807
theorem inR_full {l r : Kvs} (hl : kvR l) (hr : kvR r) : inR (-9223372036854775808) 9223372036854775807 (dif l r) = dif l r := by
  unfold inR
  refine List.filter_eq_self.2 fun c hc => decide_eq_true ?_
  rcases dif_keys l r c hc with ⟨x, hx, e⟩ | ⟨x, hx, e⟩
  · rw [← e]; exact hl x hx
  · rw [← e]; exact hr x hx
theorem dif_asc (l r : Kvs) : Srt l → Srt r → (dif l r).Pairwise fun a b => a.2.1 < b.2.1 := by
  fun_induction dif l r
  case case1 => exact fun _ _ => List.Pairwise.nil
  case case2 k w r ih =>
    intro hl hr
    obtain ⟨h1, h2⟩ := List.pairwise_cons.1 hr
    refine List.pairwise_cons.2 ⟨fun c hc => ?_, ih hl h2⟩
    rcases dif_keys _ _ c hc with ⟨x, hx, _⟩ | ⟨x, hx, e⟩
    · cases hx
    · have := h1 x hx; rw [← e]; exact this
  case case3 k v l ih =>
    intro hl hr
    obtain ⟨h1, h2⟩ := List.pairwise_cons.1 hl
    refine List.pairwise_cons.2 ⟨fun c hc => ?_, ih h2 hr⟩
    rcases dif_keys _ _ c hc with ⟨x, hx, e⟩ | ⟨x, hx, _⟩
    · have := h1 x hx; rw [← e]; exact this
    · cases hx
  case case4 k v l k' w r h ih =>
    intro hl hr
    obtain ⟨h1, h2⟩ := List.pairwise_cons.1 hl
    refine List.pairwise_cons.2 ⟨fun c hc => ?_, ih h2 hr⟩
    rcases dif_keys _ _ c hc with ⟨x, hx, e⟩ | ⟨x, hx, e⟩
    · have := h1 x hx; rw [← e]; exact this
    · rw [← e]
      rcases List.mem_cons.1 hx with rfl | hx
      · exact h
      · have h3 : k' < x.1 := (List.pairwise_cons.1 hr).1 x hx
        show k < x.1; omega
  case case5 k v l k' w r h1 h2 ih =>
    intro hl hr
    obtain ⟨h3, h4⟩ := List.pairwise_cons.1 hr
    refine List.pairwise_cons.2 ⟨fun c hc => ?_, ih hl h4⟩
    rcases dif_keys _ _ c hc with ⟨x, hx, e⟩ | ⟨x, hx, e⟩
    · rw [← e]
      rcases List.mem_cons.1 hx with rfl | hx
      · exact h2
      · have h5 : k < x.1 := (List.pairwise_cons.1 hl).1 x hx
        show k' < x.1; omega
    · have := h3 x hx; rw [← e]; exact this
  case case6 k v l k' w r h1 h2 h3 ih =>
    intro hl hr
    obtain ⟨a1, a2⟩ := List.pairwise_cons.1 hl
    obtain ⟨b1, b2⟩ := List.pairwise_cons.1 hr
    refine List.pairwise_cons.2 ⟨fun c hc => ?_, ih a2 b2⟩
    rcases dif_keys _ _ c hc with ⟨x, hx, e⟩ | ⟨x, hx, e⟩
    · have := a1 x hx; rw [← e]; exact this
    · have h5 : k' < x.1 := b1 x hx
      rw [← e]; show k < x.1; omega
  case case7 k v l k' w r h1 h2 h3 ih =>
    exact fun hl hr => ih (List.pairwise_cons.1 hl).2 (List.pairwise_cons.1 hr).2
/-- what a change says of its key -/
structure ChOk (l r : Kvs) (c : Chg) : Prop where
  new : lget c.2.1 r = if c.1 = 2 then none else some c.2.2.2
  old : lget c.2.1 l = if c.1 = 1 then none else some c.2.2.1
  z1 : c.1 = 1 → c.2.2.1 = 0
  z2 : c.1 = 2 → c.2.2.2 = 0
  kd : c.1 = 1 ∨ c.1 = 2 ∨ c.1 = 3
theorem ChOk.up {l r l' r' : Kvs} {c : Chg} (h : ChOk l r c) (h1 : lget c.2.1 l' = lget c.2.1 l) (h2 : lget c.2.1 r' = lget c.2.1 r) : ChOk l' r' c :=
  ⟨by rw [h2]; exact h.new, by rw [h1]; exact h.old, h.z1, h.z2, h.kd⟩
theorem dif_ok (l r : Kvs) : Srt l → Srt r → ∀ c ∈ dif l r, ChOk l r c := by
  have hc : ∀ {z k v : Int} {l : Kvs}, k < z → lget z ((k, v) :: l) = lget z l := fun h => by rw [lget_cons, if_neg (by omega)]
  have hlow : ∀ {z k v : Int} {l : Kvs}, Srt ((k, v) :: l) → z < k → lget z ((k, v) :: l) = none := fun hs h => by rw [lget_cons, if_neg (by omega), lget_low hs (by omega)]
  fun_induction dif l r
  case case1 => intro _ _ c hc; cases hc
  case case2 k w r ih =>
    intro hl hr c hm
    rcases List.mem_cons.1 hm with rfl | hm
    · exact ⟨by rw [lget_cons, if_pos rfl]; rfl, rfl, fun _ => rfl, fun h => (by cases h), .inl rfl⟩
    · have h2 := (List.pairwise_cons.1 hr)
      have h3 : k < c.2.1 := (List.pairwise_cons.1 (by have := dif_asc [] ((k, w) :: r) hl hr; rw [dif] at this; exact this)).1 c hm
      exact (ih hl h2.2 c hm).up rfl (hc h3)
  case case3 k v l ih =>
    intro hl hr c hm
    rcases List.mem_cons.1 hm with rfl | hm
    · exact ⟨rfl, by rw [lget_cons, if_pos rfl]; rfl, fun h => (by cases h), fun _ => rfl, .inr (.inl rfl)⟩
    · have h2 := (List.pairwise_cons.1 hl)
      have h3 : k < c.2.1 := (List.pairwise_cons.1 (by have := dif_asc ((k, v) :: l) [] hl hr; rw [dif] at this; exact this)).1 c hm
      exact (ih h2.2 hr c hm).up (hc h3) rfl
  case case4 k v l k' w r h ih =>
    intro hl hr c hm
    rcases List.mem_cons.1 hm with rfl | hm
    · exact ⟨by rw [hlow hr h]; rfl, by rw [lget_cons, if_pos rfl]; rfl, fun h => (by cases h), fun _ => rfl, .inr (.inl rfl)⟩
    · have h3 : k < c.2.1 := (List.pairwise_cons.1 (by have := dif_asc ((k, v) :: l) ((k', w) :: r) hl hr; rw [dif, if_pos h] at this; exact this)).1 c hm
      exact (ih (List.pairwise_cons.1 hl).2 hr c hm).up (hc h3) rfl
  case case5 k v l k' w r h1 h2 ih =>
    intro hl hr c hm
    rcases List.mem_cons.1 hm with rfl | hm
    · exact ⟨by rw [lget_cons, if_pos rfl]; rfl, by rw [hlow hl h2]; rfl, fun _ => rfl, fun h => (by cases h), .inl rfl⟩
    · have h3 : k' < c.2.1 := (List.pairwise_cons.1 (by have := dif_asc ((k, v) :: l) ((k', w) :: r) hl hr; rw [dif, if_neg h1, if_pos h2] at this; exact this)).1 c hm
      exact (ih hl (List.pairwise_cons.1 hr).2 c hm).up rfl (hc h3)
  case case6 k v l k' w r h1 h2 h3 ih =>
    intro hl hr c hm
    have hk : k' = k := by omega
    subst hk
    rcases List.mem_cons.1 hm with rfl | hm
    · exact ⟨by rw [lget_cons, if_pos rfl]; rfl, by rw [lget_cons, if_pos rfl]; rfl, fun h => (by cases h), fun h => (by cases h), .inr (.inr rfl)⟩
    · have h4 : k' < c.2.1 := (List.pairwise_cons.1 (by have := dif_asc ((k', v) :: l) ((k', w) :: r) hl hr; rw [dif, if_neg h1, if_neg h2, if_pos h3] at this; exact this)).1 c hm
      exact (ih (List.pairwise_cons.1 hl).2 (List.pairwise_cons.1 hr).2 c hm).up (hc h4) (hc h4)
  case case7 k v l k' w r h1 h2 h3 ih =>
    intro hl hr c hm
    have hk : k' = k := by omega
    subst hk
    have h4 : k' < c.2.1 := by
      rcases dif_keys _ _ c hm with ⟨x, hx, e⟩ | ⟨x, hx, e⟩
      · have h5 : k' < x.1 := (List.pairwise_cons.1 hl).1 x hx
        rw [← e]; exact h5
      · have h5 : k' < x.1 := (List.pairwise_cons.1 hr).1 x hx
        rw [← e]; exact h5
    exact (ih (List.pairwise_cons.1 hl).2 (List.pairwise_cons.1 hr).2 c hm).up (hc h4) (hc h4)
theorem lget_ldel {k : Int} {l : Kvs} (hs : Srt l) (z : Int) : lget z (ldel k l) = if z = k then none else lget z l := pget_del (M := l) hs
/-- a change performed -/
def rep (l : Kvs) (c : Chg) : Kvs := if c.1 = 2 then ldel c.2.1 l else lins c.2.1 c.2.2.2 l
def reps (l : Kvs) (D : List Chg) : Kvs := D.foldl rep l
theorem rep_srt {l : Kvs} {c : Chg} (h : Srt l) : Srt (rep l c) := by unfold rep; split; exact ldel_srt h; exact lins_srt h
theorem reps_srt : ∀ {D : List Chg} {l : Kvs}, Srt l → Srt (reps l D)
  | [], _, h => h
  | _ :: D, _, h => reps_srt (D := D) (rep_srt h)
theorem rep_get {l : Kvs} {c : Chg} (h : Srt l) (z : Int) : lget z (rep l c) = if z = c.2.1 then (if c.1 = 2 then none else some c.2.2.2) else lget z l := by
  unfold rep
  by_cases h2 : c.1 = 2
  · rw [if_pos h2, if_pos h2, lget_ldel h]
  · rw [if_neg h2, if_neg h2, lget_lins h]
theorem reps_far : ∀ {D : List Chg} {l : Kvs} {z : Int}, Srt l → (∀ c ∈ D, c.2.1 ≠ z) → lget z (reps l D) = lget z l
  | [], _, _, _, _ => rfl
  | c :: D, l, z, h, hz => by
    show lget z (reps (rep l c) D) = _
    rw [reps_far (rep_srt h) fun x hx => hz x (List.mem_cons_of_mem _ hx), rep_get h, if_neg fun e => hz c (List.mem_cons_self ..) e.symm]
theorem reps_at : ∀ {D : List Chg} {l : Kvs} {c : Chg}, Srt l → (D.Pairwise fun a b => a.2.1 < b.2.1) → c ∈ D → lget c.2.1 (reps l D) = if c.1 = 2 then none else some c.2.2.2
  | [], _, _, _, _, h => by cases h
  | d :: D, l, c, h, hd, hc => by
    obtain ⟨h1, h2⟩ := List.pairwise_cons.1 hd
    show lget c.2.1 (reps (rep l d) D) = _
    rcases List.mem_cons.1 hc with rfl | hc
    · rw [reps_far (rep_srt h) fun x hx => by have := h1 x hx; omega, rep_get h, if_pos rfl]
    · exact reps_at (rep_srt h) h2 hc
/-- the differences performed -/
theorem reps_dif {l r : Kvs} (hl : Srt l) (hr : Srt r) : reps l (dif l r) = r := by
  refine pSrt.ext (M := reps l (dif l r)) (N := r) (reps_srt hl) hr fun z => ?_
  show lget z (reps l (dif l r)) = lget z r
  by_cases h : ∃ c ∈ dif l r, c.2.1 = z
  · obtain ⟨c, hc, rfl⟩ := h
    rw [reps_at hl (dif_asc l r hl hr) hc, (dif_ok l r hl hr c hc).new]
  · rw [reps_far hl fun c hc e => h ⟨c, hc, e⟩]
    exact Classical.not_not.1 fun hn => h ((dif_get l r hl hr z).2 hn)
theorem reps_snoc {l : Kvs} {D : List Chg} {k : Nat} {c : Chg} (h : D[k]? = some c) : reps l (D.take (k + 1)) = rep (reps l (D.take k)) c := by
  unfold reps; rw [List.take_add_one, h, List.foldl_append]; rfl
end Go.V
