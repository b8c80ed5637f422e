/-
  The engine, third part, no program: what is known of memory, as a list of owned or shared things.
  Conditions: none; every fact is proved from the library's own definitions.
-/
import Derived.Test.YtenkmjbghbegfaaDoorRun
namespace Go.V
open Go Go.RowKit

abbrev Hp := Nat → Option Obj
def Sub (a b : Hp) : Prop := ∀ k x, a k = some x → b k = some x
def Dj (a b : Hp) : Prop := ∀ k, a k = none ∨ b k = none
def SubW (a : Hp) (w : World) : Prop := ∀ k x, a k = some x → w.heap[k]? = some x
theorem Sub.refl (a : Hp) : Sub a a := fun _ _ h => h
theorem Sub.trans {a b c : Hp} (h : Sub a b) (k : Sub b c) : Sub a c := fun i x hx => k i x (h i x hx)
theorem Sub.w {a b : Hp} {w : World} (h : Sub a b) (k : SubW b w) : SubW a w := fun i x hx => k i x (h i x hx)
theorem Dj.symm {a b : Hp} (h : Dj a b) : Dj b a := fun k => (h k).symm
theorem Dj.sub {a b a' b' : Hp} (h : Dj a b) (ha : Sub a' a) (hb : Sub b' b) : Dj a' b' := fun k => by
  rcases h k with h1 | h1
  · left
    cases hx : a' k with
    | none => rfl
    | some x => rw [ha k x hx] at h1; cases h1
  · right
    cases hx : b' k with
    | none => rfl
    | some x => rw [hb k x hx] at h1; cases h1
/-- two heaps that have nothing in common, together -/
def join (a b : Hp) : Hp := fun k => match a k with | some x => some x | none => b k
theorem join_l (a b : Hp) : Sub a (join a b) := fun k x h => by simp [join, h]
theorem join_r {a b : Hp} (h : Dj a b) : Sub b (join a b) := fun k x hx => by
  rcases h k with h1 | h1
  · simp [join, h1, hx]
  · rw [hx] at h1; cases h1
theorem join_sub {a b c : Hp} (h1 : Sub a c) (h2 : Sub b c) : Sub (join a b) c := fun k x hx => by
  unfold join at hx
  split at hx
  · rename_i y hy; exact h1 k x (by rw [hy]; exact hx)
  · exact h2 k x hx
theorem join_w {a b : Hp} {w : World} (h1 : SubW a w) (h2 : SubW b w) : SubW (join a b) w := fun k x hx => by
  unfold join at hx
  split at hx
  · rename_i y hy; exact h1 k x (by rw [hy]; exact hx)
  · exact h2 k x hx
theorem join_none {a b : Hp} {k : Nat} : join a b k = none ↔ a k = none ∧ b k = none := by
  unfold join
  split
  · rename_i x hx; simp [hx]
  · rename_i hx; simp [hx]
theorem Dj.join {a b c : Hp} (h1 : Dj a c) (h2 : Dj b c) : Dj (join a b) c := fun k => by
  rcases h1 k with h | h
  · rcases h2 k with h' | h'
    · exact .inl (join_none.2 ⟨h, h'⟩)
    · exact .inr h'
  · exact .inr h

/-- a thing: what it owns, what it shares -/
structure HP where
  h : Hp → Hp → Prop
  mono : ∀ o o' r r', Sub o o' → Sub r r' → h o r → h o' r'

def All : List HP → Hp → Hp → Prop
  | [], _, _ => True
  | A :: L, o, r => ∃ o1 o2, Sub o1 o ∧ Sub o2 o ∧ Dj o1 o2 ∧ A.h o1 r ∧ All L o2 r
theorem All.mono : ∀ (L : List HP) {o o' r r' : Hp}, Sub o o' → Sub r r' → All L o r → All L o' r'
  | [], _, _, _, _, _, _, _ => trivial
  | A :: L, _, _, _, _, ho, hr, ⟨o1, o2, h1, h2, hd, hA, hL⟩ => ⟨o1, o2, h1.trans ho, h2.trans ho, hd, A.mono _ _ _ _ (Sub.refl _) hr hA, All.mono L (Sub.refl _) hr hL⟩
theorem All.swap {A B : HP} {L : List HP} {o r : Hp} (h : All (A :: B :: L) o r) : All (B :: A :: L) o r := by
  obtain ⟨o1, o2, h1, h2, hd, hA, o3, o4, h3, h4, hd', hB, hL⟩ := h
  have d14 : Dj o1 o4 := hd.sub (Sub.refl _) h4
  exact ⟨o3, join o1 o4, h3.trans h2, join_sub h1 (h4.trans h2), ((hd.sub (Sub.refl _) h3).join (hd'.symm)).symm, hB, o1, o4, join_l _ _, join_r d14, d14, hA, hL⟩
theorem All.perm {L L' : List HP} (hp : L.Perm L') : ∀ {o r : Hp}, All L o r → All L' o r := by
  induction hp with
  | nil => exact fun h => h
  | cons A _ ih => rintro o r ⟨o1, o2, h1, h2, hd, hA, hL⟩; exact ⟨o1, o2, h1, h2, hd, hA, ih hL⟩
  | swap A B L => exact All.swap
  | trans _ _ ih1 ih2 => exact fun h => ih2 (ih1 h)
theorem All.app : ∀ (L M : List HP) {o r : Hp}, All (L ++ M) o r → ∃ o1 o2, Sub o1 o ∧ Sub o2 o ∧ Dj o1 o2 ∧ All L o1 r ∧ All M o2 r
  | [], M, o, r, h => ⟨fun _ => none, o, (fun _ _ h => by cases h), Sub.refl _, (fun _ => .inl rfl), trivial, h⟩
  | A :: L, M, o, r, ⟨o1, o2, h1, h2, hd, hA, hL⟩ => by
    obtain ⟨o3, o4, h3, h4, hd', hL', hM⟩ := All.app L M hL
    have d13 : Dj o1 o3 := hd.sub (Sub.refl _) h3
    exact ⟨join o1 o3, o4, join_sub h1 (h3.trans h2), h4.trans h2, (hd.sub (Sub.refl _) h4).join hd', ⟨o1, o3, join_l _ _, join_r d13, d13, hA, hL'⟩, hM⟩
theorem All.cat : ∀ (L M : List HP) {o1 o2 o r : Hp}, Sub o1 o → Sub o2 o → Dj o1 o2 → All L o1 r → All M o2 r → All (L ++ M) o r
  | [], M, o1, o2, o, r, _, h2, _, _, hM => All.mono M h2 (Sub.refl _) hM
  | A :: L, M, o1, o2, o, r, h1, h2, hd, ⟨o3, o4, h3, h4, hd', hA, hL⟩, hM => by
    have d42 : Dj o4 o2 := hd.sub h4 (Sub.refl _)
    exact ⟨o3, join o4 o2, h3.trans h1, join_sub (h4.trans h1) h2, ((hd'.symm).join ((hd.sub h3 (Sub.refl _)).symm)).symm, hA, All.cat L M (join_l _ _) (join_r d42) d42 hL hM⟩

/-- the state: since the world g began nothing that was there has changed; the things of L are there, each in memory of its own -/
structure St (g : World) (L : List HP) (w : World) : Prop where
  os : w.os = g.os
  tape : w.tape = g.tape
  output : w.output = g.output
  size : g.heap.size ≤ w.heap.size
  own : ∃ o r, Dj o r ∧ SubW o w ∧ SubW r w ∧ (∀ k, k < g.heap.size → r k = g.heap[k]?) ∧ All L o r

section
variable {g w w' : World} {L L' : List HP} {A B : HP}
theorem St.start (w : World) : St w [] w :=
  ⟨rfl, rfl, rfl, Nat.le_refl _, fun _ => none, fun k => w.heap[k]?, (fun _ => .inl rfl), (fun _ _ h => by cases h), (fun _ _ h => h), (fun _ _ => rfl), trivial⟩
theorem St.below (h : St g L w) : Below g.heap.size g w := by
  obtain ⟨o, r, hd, ho, hr, hg, _⟩ := h.own
  refine ⟨h.os, h.tape, h.output, h.size, fun k hk => ?_⟩
  have h1 := hg k hk
  rw [Array.getElem?_eq_getElem hk] at h1 ⊢
  exact hr k _ h1
theorem St.perm (h : St g L w) (hp : L.Perm L') : St g L' w :=
  let ⟨o, r, a, b, c, d, e⟩ := h.own
  ⟨h.os, h.tape, h.output, h.size, o, r, a, b, c, d, All.perm hp e⟩
theorem St.swap (h : St g (A :: B :: L) w) : St g (B :: A :: L) w := h.perm (List.Perm.swap _ _ _)
theorem St.tail (h : St g (A :: L) w) : St g L w :=
  let ⟨o, r, a, b, c, d, _, _, _, h2, _, _, hL⟩ := h.own
  ⟨h.os, h.tape, h.output, h.size, o, r, a, b, c, d, All.mono L h2 (Sub.refl _) hL⟩
theorem perm_at : ∀ {L : List HP} {i : Nat}, L[i]? = some A → L.Perm (A :: L.eraseIdx i)
  | [], _, h => by simp at h
  | B :: L, 0, h => by simp at h; subst h; exact List.Perm.refl _
  | B :: L, i + 1, h => by
    simp at h
    exact (List.Perm.cons B (perm_at h)).trans (List.Perm.swap _ _ _)
/-- thing number i comes to the front -/
theorem St.at_ (i : Nat) (h : St g L w) (hi : L[i]? = some A) : St g (A :: L.eraseIdx i) w := h.perm (perm_at hi)
theorem perm_set : ∀ {L : List HP} {i : Nat}, L[i]? = some A → (B :: L.eraseIdx i).Perm (L.set i B)
  | [], _, h => by simp at h
  | C :: L, 0, h => List.Perm.refl _
  | C :: L, i + 1, h => by
    simp at h
    exact (List.Perm.swap _ _ _).trans (List.Perm.cons C (perm_set h))
/-- and back to its place -/
theorem St.back (i : Nat) (h : St g (B :: L.eraseIdx i) w) (hi : L[i]? = some A) : St g (L.set i B) w := h.perm (perm_set hi)
def pick : List HP → List Nat → Option (List HP)
  | _, [] => some []
  | L, i :: is => match nth L i, pick (L.eraseIdx i) is with | some A, some M => some (A :: M) | _, _ => none
theorem St.sub_of {M : List HP} : ∀ (is : List Nat) {L : List HP}, pick L is = some M → ∃ R, L.Perm (M ++ R) := by
  intro is
  induction is generalizing M with
  | nil => intro L h; simp [pick] at h; subst h; exact ⟨L, List.Perm.refl _⟩
  | cons i is ih =>
    intro L h
    simp only [pick, nth_eq] at h
    split at h
    · rename_i A M' hA hM
      simp only [Option.some.injEq] at h
      subst h
      obtain ⟨R, hR⟩ := ih hM
      exact ⟨R, (perm_at hA).trans (List.Perm.cons A hR)⟩
    · cases h
theorem All.fst : ∀ (L M : List HP) {o r : Hp}, All (L ++ M) o r → All L o r := fun L M _ _ h =>
  let ⟨_, _, h1, _, _, hL, _⟩ := All.app L M h
  All.mono L h1 (Sub.refl _) hL
/-- those things of the list whose numbers (each in what the ones before it leave) are given -/
theorem St.pick {M : List HP} (h : St g L w) (is : List Nat) (hp : pick L is = some M) : St g M w := by
  obtain ⟨R, hR⟩ := St.sub_of is hp
  obtain ⟨o, r, a, b, c, d, e⟩ := h.own
  exact ⟨h.os, h.tape, h.output, h.size, o, r, a, b, c, d, All.fst M R (All.perm hR e)⟩
/-- the first k things in another order, or some of them; the rest stays -/
theorem St.sel {M : List HP} (k : Nat) (is : List Nat) (h : St g L w) (hp : Go.V.pick (L.take k) is = some M) : St g (M ++ L.drop k) w := by
  obtain ⟨R, hR⟩ := St.sub_of is hp
  have h1 : L.Perm ((M ++ L.drop k) ++ R) := by
    have h2 : (L.take k ++ L.drop k).Perm ((M ++ R) ++ L.drop k) := List.Perm.append_right _ hR
    rw [List.take_append_drop] at h2
    refine h2.trans ?_
    rw [List.append_assoc, List.append_assoc]
    exact List.Perm.append_left M List.perm_append_comm
  obtain ⟨o, r, a, b, c, d, e⟩ := h.own
  exact ⟨h.os, h.tape, h.output, h.size, o, r, a, b, c, d, All.fst _ R (All.perm h1 e)⟩
/-- what is left of the list -/
def unpick : List HP → List Nat → List HP
  | L, [] => L
  | L, i :: is => unpick (L.eraseIdx i) is
theorem unpick_perm {M : List HP} : ∀ (is : List Nat) {L : List HP}, Go.V.pick L is = some M → L.Perm (M ++ unpick L is) := by
  intro is
  induction is generalizing M with
  | nil => intro L h; simp [Go.V.pick] at h; subst h; exact List.Perm.refl _
  | cons i is ih =>
    intro L h
    simp only [Go.V.pick, nth_eq] at h
    split at h
    · rename_i A M' hA hM
      simp only [Option.some.injEq] at h
      subst h
      exact (perm_at hA).trans (List.Perm.cons A (ih hM))
    · cases h
/-- some things first; the others stay in their order -/
theorem St.selU {M : List HP} (is : List Nat) (h : St g L w) (hp : Go.V.pick L is = some M) : St g (M ++ unpick L is) w := h.perm (unpick_perm is hp)
theorem St.drew (h : St g L w) : St g L w.drew := ⟨h.os, h.tape, h.output, h.size, h.own⟩
theorem St.drewN (h : St g L w) (n : Nat) : St g L (w.drewN n) := ⟨h.os, h.tape, h.output, h.size, h.own⟩

/-- one thing turns into another -/
theorem St.upd (h : St g (A :: L) w) (e1 : w'.os = w.os) (e2 : w'.tape = w.tape) (e3 : w'.output = w.output) (e4 : w.heap.size ≤ w'.heap.size)
    (hs : ∀ o1 r, A.h o1 r → SubW o1 w → SubW r w → Dj o1 r → ∃ o1', B.h o1' r ∧ SubW o1' w' ∧ (∀ k, o1' k ≠ none → o1 k ≠ none ∨ w.heap.size ≤ k) ∧ (∀ k, k < w.heap.size → o1 k = none → w'.heap[k]? = w.heap[k]?)) : St g (B :: L) w' := by
  obtain ⟨o, r, hd, ho, hr, hg, o1, o2, h1, h2, hd12, hA, hL⟩ := h.own
  obtain ⟨o1', hB, hw1, hdom, hfr⟩ := hs o1 r hA (h1.w ho) hr (hd.sub h1 (Sub.refl _))
  have old : ∀ {x : Hp}, SubW x w → Dj o1 x → SubW x w' := fun {x} hx hdx k y hy => by
    have hk := hx k y hy
    have hlt : k < w.heap.size := (Array.getElem?_eq_some_iff.1 hk).1
    rcases hdx k with hn | hn
    · rw [hfr k hlt hn]; exact hk
    · rw [hy] at hn; cases hn
  have apart : ∀ {x : Hp}, SubW x w → Dj o1 x → Dj o1' x := fun {x} hx hdx k => by
    cases hk : o1' k with
    | none => exact .inl rfl
    | some y =>
      rcases hdom k (by rw [hk]; simp) with hn | hn
      · rcases hdx k with h' | h'
        · exact absurd h' hn
        · exact .inr h'
      · right
        cases hxk : x k with
        | none => rfl
        | some z =>
          have := (Array.getElem?_eq_some_iff.1 (hx k z hxk)).1
          omega
  have d1r : Dj o1 r := hd.sub h1 (Sub.refl _)
  have d2 : Dj o1' o2 := apart (h2.w ho) hd12
  have dr : Dj o1' r := apart hr d1r
  exact ⟨e1.trans h.os, e2.trans h.tape, e3.trans h.output, Nat.le_trans h.size e4, join o1' o2, r, dr.join (hd.sub h2 (Sub.refl _)),
    join_w hw1 (old (h2.w ho) hd12), old hr d1r, hg, o1', o2, join_l _ _, join_r d2, d2, hB, hL⟩
/-- what is known of thing number i -/
theorem St.get (h : St g L w) (i : Nat) (hi : L[i]? = some A) : ∃ o1 r, A.h o1 r ∧ SubW o1 w ∧ SubW r w := by
  obtain ⟨o, r, hd, ho, hr, hg, o1, o2, h1, h2, hd12, hA, hL⟩ := (h.at_ i hi).own
  exact ⟨o1, r, hA, h1.w ho, hr⟩
/-- a thing that owns nothing comes for nothing -/
theorem St.add (h : St g L w) (hA : ∀ r : Hp, (∀ k, k < g.heap.size → r k = g.heap[k]?) → A.h (fun _ => none) r) : St g (A :: L) w := by
  obtain ⟨o, r, a, b, c, d, e⟩ := h.own
  exact ⟨h.os, h.tape, h.output, h.size, o, r, a, b, c, d, fun _ => none, o, fun _ _ h => (by cases h), Sub.refl _, fun _ => .inl rfl, hA r d, e⟩
/-- a thing that owns nothing may be there twice -/
theorem St.dup (h : St g L w) (i : Nat) (hi : L[i]? = some A) (hA : ∀ o r, A.h o r → A.h (fun _ => none) r) : St g (A :: L) w := by
  obtain ⟨o, r, a, b, c, d, e⟩ := h.own
  obtain ⟨o1, o2, h1, h2, hd, hh, hL⟩ := All.perm (perm_at hi) e
  exact ⟨h.os, h.tape, h.output, h.size, o, r, a, b, c, d, fun _ => none, o, fun _ _ h => (by cases h), Sub.refl _, fun _ => .inl rfl, hA _ _ hh, e⟩
theorem St.impl (h : St g (A :: L) w) (hAB : ∀ o r, A.h o r → B.h o r) : St g (B :: L) w :=
  let ⟨o, r, a, b, c, d, o1, o2, h1, h2, hd, hA, hL⟩ := h.own
  ⟨h.os, h.tape, h.output, h.size, o, r, a, b, c, d, o1, o2, h1, h2, hd, hAB _ _ hA, hL⟩
theorem St.app {M : List HP} (h : St g (A :: L) w) (hAB : ∀ o r, A.h o r → All M o r) : St g (M ++ L) w := by
  obtain ⟨o, r, a, b, c, d, o1, o2, h1, h2, hd, hA, hL⟩ := h.own
  exact ⟨h.os, h.tape, h.output, h.size, o, r, a, b, c, d, All.cat M L h1 h2 hd (hAB _ _ hA) hL⟩
theorem St.fold {M : List HP} (h : St g (M ++ L) w) (hAB : ∀ o r, All M o r → A.h o r) : St g (A :: L) w := by
  obtain ⟨o, r, a, b, c, d, e⟩ := h.own
  obtain ⟨o1, o2, h1, h2, hd, hM, hL⟩ := All.app M L e
  exact ⟨h.os, h.tape, h.output, h.size, o, r, a, b, c, d, o1, o2, h1, h2, hd, hAB _ _ hM, hL⟩
end

/-! ### the things -/
/-- one object of its own -/
def blk (b : Nat) (ob : Obj) : HP := ⟨fun o _ => o b = some ob, fun _ _ _ _ ho _ h => ho _ _ h⟩
/-- a row of cells of its own -/
abbrev cel (b : Nat) (c : Array Value) (t : TypeId) : HP := blk b (.cells c t (0, 0))
def pur (p : Prop) : HP := ⟨fun _ _ => p, fun _ _ _ _ _ _ h => h⟩
/-- several things as one -/
def all (L : List HP) : HP := ⟨All L, fun _ _ _ _ ho hr h => All.mono L ho hr h⟩
def exi {α : Type} (f : α → HP) : HP := ⟨fun o r => ∃ x, (f x).h o r, fun _ _ _ _ ho hr ⟨x, h⟩ => ⟨x, (f x).mono _ _ _ _ ho hr h⟩⟩
/-- elements of `size` cells each -/
def OkE (size : Nat) (ls : List (List Value)) : Prop := ∀ x ∈ ls, x.length = size ∧ ∀ u ∈ x, u.oneCell' = true
theorem OkE.len {size : Nat} {ls : List (List Value)} (h : OkE size ls) : ∀ x ∈ ls, x.length = size := fun x hx => (h x hx).1
theorem OkE.nil (size : Nat) : OkE size [] := fun _ h => by cases h
theorem OkE.app {size : Nat} {ls ms : List (List Value)} (h : OkE size ls) (k : OkE size ms) : OkE size (ls ++ ms) := fun x hx => by
  rcases List.mem_append.1 hx with hx | hx
  · exact h x hx
  · exact k x hx
theorem OkE.one {size : Nat} {ls : List (List Value)} (h : OkE size ls) : ∀ u ∈ ls.flatten, u.oneCell' = true := fun u hu => by
  obtain ⟨x, hx, hux⟩ := List.mem_flatten.1 hu
  exact (h x hx).2 u hux
/-- a slice of the call's own, onto which it may append: elements of `size` cells each -/
def Own (e size : Nat) (ls : List (List Value)) (a : Option Addr) (c : Nat) : HP :=
  ⟨fun o _ => OkE size ls ∧ ((a = none ∧ c = 0 ∧ ls = []) ∨ ∃ b cur, a = some ⟨b, 0, none⟩ ∧ o b = some (.cells cur e (0, 0)) ∧ ls.length ≤ c ∧ c ≤ maxLen ∧ cur.size = c * size ∧ cur.toList.take (ls.length * size) = ls.flatten),
   fun _ _ _ _ ho _ ⟨h1, h2⟩ => ⟨h1, h2.imp id fun ⟨b, cur, q1, q2, q3⟩ => ⟨b, cur, q1, ho _ _ q2, q3⟩⟩⟩
/-- a slice that nobody writes -/
def Sh (_e size : Nat) (ls : List (List Value)) (a : Option Addr) (c : Nat) : HP :=
  ⟨fun _ r => OkE size ls ∧ ls.length ≤ c ∧ (0 < ls.length → ∃ b off cur t fz, a = some ⟨b, off, none⟩ ∧ r b = some (.cells cur t fz) ∧ ∀ (j : Nat) (u : Value), ls.flatten[j]? = some u → cur[off + j]? = some u),
   fun _ _ _ _ _ hr ⟨h1, h2, h3⟩ => ⟨h1, h2, fun h => let ⟨b, off, cur, t, fz, q1, q2, q3⟩ := h3 h; ⟨b, off, cur, t, fz, q1, hr _ _ q2, q3⟩⟩⟩
def bo (a : Option Addr) : Nat := match a with | some x => x.block | none => 0
def oo (a : Option Addr) : Nat := match a with | some x => x.off | none => 0

theorem flat_at : ∀ (ls : List (List Value)) (size : Nat), (∀ x ∈ ls, x.length = size) → ∀ (k : Nat) (cs : List Value) (j : Nat), ls[k]? = some cs → j < cs.length → ls.flatten[k * size + j]? = cs[j]?
  | [], _, _, k, cs, j, h, _ => by simp at h
  | x :: r, size, hs, 0, cs, j, h, hj => by
    simp at h; subst h
    simp [List.getElem?_append, hj]
  | x :: r, size, hs, k + 1, cs, j, h, hj => by
    simp at h
    have hx := hs x (by simp)
    rw [List.flatten_cons, List.getElem?_append_right (by rw [hx, Nat.add_mul]; omega)]
    have := flat_at r size (fun y hy => hs y (by simp [hy])) k cs j h hj
    rw [← this, hx]
    congr 1
    rw [Nat.add_mul]; omega
theorem flat_len : ∀ (ls : List (List Value)) (size : Nat), (∀ x ∈ ls, x.length = size) → ls.flatten.length = ls.length * size
  | [], _, _ => by simp
  | x :: r, size, hs => by
    simp only [List.flatten_cons, List.length_append, List.length_cons, hs x (by simp), flat_len r size (fun y hy => hs y (by simp [hy])), Nat.add_mul]
    omega

section
variable {g w : World} {L : List HP} {e size c : Nat} {ls : List (List Value)} {a : Option Addr}
theorem St.ld (h : St g L w) (i : Nat) {b t off : Nat} {cs : Array Value} {v : Value} (hi : L[i]? = some (cel b cs t)) (hc : cs[off]? = some v) : w.cell? ⟨b, off, none⟩ = some v := by
  obtain ⟨o1, r, hA, ho, hr⟩ := h.get i hi
  rw [cell_of_row w b off cs t (0, 0) (ho _ _ hA)]
  exact hc
/-- the cells of element k of a slice -/
def IsA (a : Option Addr) : Prop := ∃ b off, a = some ⟨b, off, none⟩
def RdE (w : World) (size : Nat) (a : Option Addr) (k : Nat) (cs : List Value) : Prop := ∀ (j : Nat) (u : Value), cs[j]? = some u → w.cell? ⟨bo a, oo a + k * size + j, none⟩ = some u
theorem St.rdS (h : St g L w) (i : Nat) {k : Nat} {cs : List Value} (hi : L[i]? = some (Sh e size ls a c)) (hk : ls[k]? = some cs) : IsA a ∧ RdE w size a k cs := by
  obtain ⟨o1, r, ⟨h1, h2, h3⟩, ho, hr⟩ := h.get i hi
  have hlt : k < ls.length := (List.getElem?_eq_some_iff.1 hk).1
  obtain ⟨b, off, cur, t, fz, rfl, q2, q3⟩ := h3 (by omega)
  refine ⟨⟨b, off, rfl⟩, fun j u hu => ?_⟩
  have hj : j < cs.length := (List.getElem?_eq_some_iff.1 hu).1
  rw [show bo (some ⟨b, off, none⟩) = b from rfl, show oo (some ⟨b, off, none⟩) = off from rfl, cell_of_row w b _ cur t fz (hr _ _ q2), Nat.add_assoc]
  exact q3 _ u (by rw [flat_at ls size h1.len k cs j hk hj]; exact hu)
theorem St.rdO (h : St g L w) (i : Nat) {k : Nat} {cs : List Value} (hi : L[i]? = some (Own e size ls a c)) (hk : ls[k]? = some cs) : IsA a ∧ RdE w size a k cs := by
  obtain ⟨o1, r, ⟨h1, h2⟩, ho, hr⟩ := h.get i hi
  have hlt : k < ls.length := (List.getElem?_eq_some_iff.1 hk).1
  rcases h2 with ⟨_, _, rfl⟩ | ⟨b, cur, rfl, q2, q3, q4, q5, q6⟩
  · simp at hlt
  · refine ⟨⟨b, 0, rfl⟩, fun j u hu => ?_⟩
    have hj : j < cs.length := (List.getElem?_eq_some_iff.1 hu).1
    rw [show bo (some ⟨b, 0, none⟩) = b from rfl, show oo (some ⟨b, 0, none⟩) = 0 from rfl, cell_of_row w b _ cur e (0, 0) (ho _ _ q2), Nat.zero_add]
    have h4 : ls.flatten[k * size + j]? = some u := by rw [flat_at ls size h1.len k cs j hk hj]; exact hu
    rw [← q6, List.getElem?_take] at h4
    split at h4
    · simpa using h4
    · cases h4
/-- what nobody writes any more may be shared -/
theorem St.share (h : St g (Own e size ls a c :: L) w) : St g (Sh e size ls a c :: L) w := by
  obtain ⟨o, r, hd, ho, hr, hg, o1, o2, h1, h2, hd12, ⟨q1, q2⟩, hL⟩ := h.own
  have d2r : Dj o2 r := hd.sub h2 (Sub.refl _)
  have d1r : Dj o1 r := hd.sub h1 (Sub.refl _)
  refine ⟨h.os, h.tape, h.output, h.size, o2, join r o1, (d2r.symm.join hd12).symm, h2.w ho, join_w hr (h1.w ho), fun k hk => ?_, fun _ => none, o2, fun _ _ h => (by cases h), Sub.refl _, fun _ => .inl rfl, ?_, All.mono L (Sub.refl _) (join_l _ _) hL⟩
  · have := hg k hk
    rw [Array.getElem?_eq_getElem hk] at this ⊢
    exact join_l r o1 k _ this
  · rcases q2 with ⟨rfl, rfl, rfl⟩ | ⟨b, cur, rfl, s2, s3, s4, s5, s6⟩
    · exact ⟨q1, by simp, fun h => by simp at h⟩
    · refine ⟨q1, s3, fun _ => ⟨b, 0, cur, e, (0, 0), rfl, join_r d1r.symm b _ s2, fun j u hu => ?_⟩⟩
      rw [← s6, List.getElem?_take] at hu
      split at hu
      · simpa using hu
      · cases hu
theorem Sh.dup {o r : Hp} (h : (Sh e size ls a c).h o r) : (Sh e size ls a c).h (fun _ => none) r := h
theorem St.nil_ (h : St g L w) (e size : Nat) : St g (Own e size [] none 0 :: L) w := h.add fun _ _ => ⟨OkE.nil _, .inl ⟨rfl, rfl, rfl⟩⟩
theorem St.nilS (h : St g L w) (e size : Nat) : St g (Sh e size [] none 0 :: L) w := h.add fun _ _ => ⟨OkE.nil _, by simp, by simp⟩
/-- a new object -/
theorem St.new (h : St g L w) (ob : Obj) : St g (blk w.heap.size ob :: L) (w.alloc ob) := by
  have h0 : St g (pur True :: L) w := h.add fun _ _ => trivial
  refine h0.upd rfl rfl rfl (by simp) fun o1 r _ _ _ _ => ⟨fun k => if k = w.heap.size then some ob else none, by simp [blk], fun k x hx => ?_, fun k hk => ?_, fun k hk _ => Below.heap_alloc w ob k hk⟩
  · simp only at hx
    split at hx
    · rename_i hk; subst hk; simp only [Option.some.injEq] at hx; subst hx; exact heap_alloc_new w ob
    · cases hx
  · simp only [ne_eq, ite_eq_right_iff, reduceCtorEq, imp_false, Classical.not_not] at hk
    exact .inr (by omega)
/-- a store into a row of cells of its own -/
theorem St.set0 {b t i : Nat} {cs : Array Value} (h : St g (cel b cs t :: L) w) (v : Value) : St g (cel b (cs.setIfInBounds i v) t :: L) (w.setCell ⟨b, i, none⟩ v) := by
  refine h.upd rfl rfl rfl (by simp [World.setCell]) fun o1 r hA hw _ _ => ⟨fun k => if k = b then some (.cells (cs.setIfInBounds i v) t (0, 0)) else none, by simp [blk], fun k x hx => ?_, fun k hk => ?_, fun k hk hn => ?_⟩
  · simp only at hx
    split at hx
    · rename_i hk; subst hk
      simp only [Option.some.injEq] at hx; subst hx
      exact heap_setCell_same w _ i cs t v (hw _ _ hA)
    · cases hx
  · simp only [ne_eq, ite_eq_right_iff, reduceCtorEq, imp_false, Classical.not_not] at hk
    subst hk
    exact .inl (by rw [show o1 k = some (.cells cs t (0, 0)) from hA]; simp)
  · refine Below.heap_setCell w _ v k fun e => ?_
    have : o1 k = some (.cells cs t (0, 0)) := by rw [e]; exact hA
    rw [hn] at this; cases this
end
end Go.V
