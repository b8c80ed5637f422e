/-
  Plain model of an arena: counts are numbers of references; a node made, a reference given up.
  Conditions: none.
-/
import Derived.Test.YtlnlnebibgdjdaaArm
namespace Go.V
open Go Go.RowKit

def AM.nd (A : AM) (i : Int) : Nd := (A.nodes[i.toNat]?).getD Nd.zero
def AM.live (A : AM) : List Int := ((List.range A.s.used.length).map fun i : Nat => (i : Int)).filter fun i => A.s.ok i
def AM.kids (A : AM) : List Int := A.live.flatMap fun i => [(A.nd i).lf, (A.nd i).rg]
/-- the size of a tree -/
def AM.sz (A : AM) (i : Int) : Int := if A.s.ok i = true then (A.nd i).size else 0
/-- every count is the number of references: those of callers and those of parents -/
structure ARf (A : AM) (R : List Int) : Prop extends AWf A where
  kid : ∀ i, A.s.ok i = true → 0 ≤ i → ∀ c, c = (A.nd i).lf ∨ c = (A.nd i).rg → c = 0 ∨ (1 ≤ c ∧ A.s.ok c = true)
  sz : ∀ i, A.s.ok i = true → 0 ≤ i → (A.nd i).size = 1 + A.sz (A.nd i).lf + A.sz (A.nd i).rg ∧ (A.nd i).size ≤ 2147483647
  pos : ∀ i, A.s.ok i = true → 0 ≤ i → 1 ≤ (A.nd i).size
  ref : ∀ r ∈ R, r = 0 ∨ (1 ≤ r ∧ A.s.ok r = true)
  cnt : ∀ i, A.s.ok i = true → 0 ≤ i → A.cntOf i = ((R ++ A.kids).count i : Nat) ∧ 1 ≤ A.cntOf i
  zero : ∀ i, A.s.ok i = false → 1 ≤ i → A.nd i = Nd.zero
  len : R.length ≤ 1000000000
theorem AM.mem_live {A : AM} (i : Int) : i ∈ A.live ↔ 0 ≤ i ∧ A.s.ok i = true := by
  unfold AM.live
  rw [List.mem_filter, List.mem_map]
  constructor
  · rintro ⟨⟨n, _, rfl⟩, h⟩; exact ⟨by omega, h⟩
  · rintro ⟨h0, h⟩
    exact ⟨⟨i.toNat, List.mem_range.2 (ok_getD h), by omega⟩, h⟩
theorem AM.live_nodup (A : AM) : A.live.Nodup := by
  unfold AM.live
  refine List.Pairwise.filter _ (List.pairwise_map.2 ?_)
  exact (List.nodup_range).imp fun h e => h (by omega)
theorem live_perm {A B : AM} {k : Int} (hk : A.s.ok k = true) (h0 : 0 ≤ k) (h : ∀ j, 0 ≤ j → B.s.ok j = if j = k then false else A.s.ok j) : A.live.Perm (k :: B.live) := by
  refine (List.perm_ext_iff_of_nodup A.live_nodup (List.nodup_cons.2 ⟨fun hm => ?_, B.live_nodup⟩)).2 fun j => ?_
  · have := ((B.mem_live k).1 hm).2
    rw [h k h0, if_pos rfl] at this; cases this
  · rw [A.mem_live, List.mem_cons, B.mem_live]
    constructor
    · rintro ⟨j0, j1⟩
      by_cases e : j = k
      · exact .inl e
      · exact .inr ⟨j0, by rw [h j j0, if_neg e]; exact j1⟩
    · rintro (rfl | ⟨j0, j1⟩)
      · exact ⟨h0, hk⟩
      · rw [h j j0] at j1
        split at j1
        · cases j1
        · exact ⟨j0, j1⟩
theorem fm_congr {α β : Type} {f g : α → List β} : ∀ {l : List α}, (∀ x ∈ l, f x = g x) → l.flatMap f = l.flatMap g
  | [], _ => rfl
  | x :: l, h => by rw [List.flatMap_cons, List.flatMap_cons, h x (List.mem_cons_self ..), fm_congr fun y hy => h y (List.mem_cons_of_mem _ hy)]
theorem kids_perm {A B : AM} {k : Int} (hk : A.s.ok k = true) (h0 : 0 ≤ k) (h : ∀ j, 0 ≤ j → B.s.ok j = if j = k then false else A.s.ok j) (hn : ∀ j, 0 ≤ j → j ≠ k → B.nd j = A.nd j) : A.kids.Perm ([(A.nd k).lf, (A.nd k).rg] ++ B.kids) := by
  have h1 := (live_perm hk h0 h).flatMap_right (fun i => [(A.nd i).lf, (A.nd i).rg])
  rw [List.flatMap_cons] at h1
  refine h1.trans (List.Perm.append_left _ (List.Perm.of_eq ?_))
  unfold AM.kids
  have hm : ∀ j ∈ B.live, [(A.nd j).lf, (A.nd j).rg] = [(B.nd j).lf, (B.nd j).rg] := fun j hj => by
    have hj2 := (B.mem_live j).1 hj
    have hne : j ≠ k := fun e => by subst e; have := hj2.2; rw [h j h0, if_pos rfl] at this; cases this
    rw [hn j hj2.1 hne]
  exact fm_congr hm
theorem AM.live_len (A : AM) : A.live.length ≤ A.s.used.length := by
  unfold AM.live
  exact Nat.le_trans (List.length_filter_le _ _) (by simp)
theorem AM.kids_len (A : AM) : A.kids.length = 2 * A.live.length := by
  unfold AM.kids
  induction A.live with
  | nil => rfl
  | cons x l ih => rw [List.flatMap_cons, List.length_append, ih]; simp; omega
theorem AM.mem_kids {A : AM} (c : Int) : c ∈ A.kids ↔ ∃ i, 0 ≤ i ∧ A.s.ok i = true ∧ (c = (A.nd i).lf ∨ c = (A.nd i).rg) := by
  unfold AM.kids
  rw [List.mem_flatMap]
  constructor
  · rintro ⟨i, hi, hc⟩
    have := (A.mem_live i).1 hi
    exact ⟨i, this.1, this.2, by simpa using hc⟩
  · rintro ⟨i, h0, h1, hc⟩
    exact ⟨i, (A.mem_live i).2 ⟨h0, h1⟩, by simpa using hc⟩
theorem ARf.perm {A : AM} {R R' : List Int} (h : ARf A R) (hp : R.Perm R') : ARf A R' :=
  ⟨h.toAWf, h.kid, h.sz, h.pos, fun r hr => h.ref r (hp.mem_iff.2 hr), fun i hi h0 => by
    rw [← (List.Perm.append_right A.kids hp).count_eq i]; exact h.cnt i hi h0, h.zero, by rw [← hp.length_eq]; exact h.len⟩
theorem ARf.cons0 {A : AM} {R : List Int} (h : ARf A R) (hl : R.length + 1 ≤ 1000000000) : ARf A (0 :: R) :=
  ⟨h.toAWf, h.kid, h.sz, h.pos, fun r hr => by
    rcases List.mem_cons.1 hr with rfl | hr
    · exact .inl rfl
    · exact h.ref r hr, fun i hi h0 => by
    have h1 := (SM.ok_rng h.s h0 hi).1
    rw [List.cons_append, List.count_cons_of_ne (by omega)]; exact h.cnt i hi h0, h.zero, by simpa using hl⟩
theorem ARf.tail0 {A : AM} {R : List Int} (h : ARf A (0 :: R)) : ARf A R :=
  ⟨h.toAWf, h.kid, h.sz, h.pos, fun r hr => h.ref r (List.mem_cons_of_mem _ hr), fun i hi h0 => by
    have h1 := (SM.ok_rng h.s h0 hi).1
    have h2 := h.cnt i hi h0
    rwa [List.cons_append, List.count_cons_of_ne (by omega)] at h2, h.zero, by have := h.len; simp at this; omega⟩
theorem ARf.cnt_le {A : AM} {R : List Int} (h : ARf A R) {i : Int} (hi : A.s.ok i = true) (h0 : 0 ≤ i) : 1 ≤ A.cntOf i ∧ A.cntOf i ≤ 2000000000 := by
  have h1 := h.cnt i hi h0
  have h2 := List.count_le_length (a := i) (l := R ++ A.kids)
  rw [List.length_append, A.kids_len] at h2
  have h3 := A.live_len
  have h4 := h.s.cap
  have h5 := h.len
  omega
theorem AM.cnt_set {A : AM} {s : SM} {n : List Nd} {k i x : Int} (hk : k.toNat < A.cnt.length) (h0 : 0 ≤ k) (hi : 0 ≤ i) : (AM.mk s n (A.cnt.set k.toNat x)).cntOf i = if i = k then x else A.cntOf i := by
  unfold AM.cntOf
  simp only
  rw [List.getElem?_set]
  by_cases h : i = k
  · subst h; rw [if_pos rfl, if_pos hk, if_pos rfl]; rfl
  · rw [if_neg (by omega), if_neg h]
theorem AM.nd_set {A : AM} {s : SM} {c : List Int} {k i : Int} {x : Nd} (hk : k.toNat < A.nodes.length) (h0 : 0 ≤ k) (hi : 0 ≤ i) : (AM.mk s (A.nodes.set k.toNat x) c).nd i = if i = k then x else A.nd i := by
  unfold AM.nd
  simp only
  rw [List.getElem?_set]
  by_cases h : i = k
  · subst h; rw [if_pos rfl, if_pos hk, if_pos rfl]; rfl
  · rw [if_neg (by omega), if_neg h]
/-- one reference more -/
theorem ARf.inc {A : AM} {R : List Int} {k : Int} (h : ARf A R) (hk : A.s.ok k = true) (h0 : 0 ≤ k) (hl : R.length + 1 ≤ 1000000000) : ARf (A.inc k) (k :: R) := by
  have hr := SM.ok_rng h.s h0 hk
  have hkl : k.toNat < A.cnt.length := by rw [h.cl]; exact hr.2.2.2
  have hb := h.cnt_le hk h0
  have hkids : (A.inc k).kids = A.kids := rfl
  refine ⟨h.toAWf.inc k, h.kid, h.sz, h.pos, fun r hr2 => ?_, fun i hi hi0 => ?_, h.zero, by simpa using hl⟩
  · rcases List.mem_cons.1 hr2 with rfl | hr2
    · exact .inr ⟨hr.1, hk⟩
    · exact h.ref r hr2
  · have hc := h.cnt i hi hi0
    rw [hkids, AM.inc, AM.cnt_set hkl h0 hi0]
    by_cases e : i = k
    · subst e
      rw [if_pos rfl, List.cons_append, List.count_cons_self, w64 (by omega)]
      omega
    · rw [if_neg e, List.cons_append, List.count_cons_of_ne (fun h => e h.symm)]; exact hc
/-- one reference less, and there are others -/
theorem ARf.dec {A : AM} {R : List Int} {k : Int} (h : ARf A (k :: R)) (hk : A.s.ok k = true) (h0 : 0 ≤ k) (h1 : A.cntOf k ≠ 1) : ARf (A.dec k) R := by
  have hr := SM.ok_rng h.s h0 hk
  have hkl : k.toNat < A.cnt.length := by rw [h.cl]; exact hr.2.2.2
  have hb := h.cnt_le hk h0
  have hkids : (A.dec k).kids = A.kids := rfl
  refine ⟨⟨h.s, h.nl, by simpa [AM.dec] using h.cl⟩, h.kid, h.sz, h.pos, fun r hr2 => h.ref r (List.mem_cons_of_mem _ hr2), fun i hi hi0 => ?_, h.zero, by have := h.len; simp at this; omega⟩
  have hc := h.cnt i hi hi0
  rw [hkids, AM.dec, AM.cnt_set hkl h0 hi0]
  by_cases e : i = k
  · subst e
    rw [List.cons_append, List.count_cons_self] at hc
    rw [if_pos rfl, w64 (by omega)]
    omega
  · rw [List.cons_append, List.count_cons_of_ne (fun h => e h.symm)] at hc
    rw [if_neg e]; exact hc
/-- the slot becomes free -/
def AM.freed (A : AM) (k : Int) : AM := ⟨A.s.release k, A.nodes.set k.toNat Nd.zero, A.cnt.set k.toNat (IntKind.i64.wrap (A.cntOf k - 1))⟩
theorem AM.freed_ok {A : AM} {k : Int} (h : SOk A.s) (hk : A.s.ok k = true) (h0 : 0 ≤ k) : ∀ j, 0 ≤ j → (A.freed k).s.ok j = if j = k then false else A.s.ok j := fun _ hj => SM.release_ok' h h0 hk hj
theorem ARf.free {A : AM} {R : List Int} {k : Int} (h : ARf A (k :: R)) (hk : A.s.ok k = true) (h0 : 0 ≤ k) (h1 : A.cntOf k = 1) (hl : R.length + 2 ≤ 1000000000) : ARf (A.freed k) ((A.nd k).lf :: (A.nd k).rg :: R) := by
  have hr := SM.ok_rng h.s h0 hk
  have hkl : k.toNat < A.cnt.length := by rw [h.cl]; exact hr.2.2.2
  have hkn : k.toNat < A.nodes.length := by rw [h.nl]; exact hr.2.2.2
  have hok := AM.freed_ok h.s hk h0
  have hnd : ∀ j, 0 ≤ j → j ≠ k → (A.freed k).nd j = A.nd j := fun j hj e => by
    unfold AM.freed; rw [AM.nd_set hkn h0 hj, if_neg e]
  have hkp := kids_perm hk h0 hok hnd
  have hck := (h.cnt k hk h0).1
  rw [h1, List.cons_append, List.count_cons_self] at hck
  have hc0 : (R ++ A.kids).count k = 0 := by omega
  rw [List.count_append] at hc0
  have hnR : k ∉ R := List.count_eq_zero.1 (by omega)
  have hnK : k ∉ A.kids := List.count_eq_zero.1 (by omega)
  have hkid : ∀ i, A.s.ok i = true → 0 ≤ i → ∀ c, c = (A.nd i).lf ∨ c = (A.nd i).rg → c = 0 ∨ (1 ≤ c ∧ (A.freed k).s.ok c = true) := fun i hi hi0 c hc => by
    rcases h.kid i hi hi0 c hc with e | ⟨c1, c2⟩
    · exact .inl e
    · refine .inr ⟨c1, ?_⟩
      have hne : c ≠ k := fun e => hnK ((A.mem_kids k).2 ⟨i, hi0, hi, by rw [← e]; exact hc⟩)
      rw [hok c (by omega), if_neg hne]; exact c2
  have hback : ∀ i, 0 ≤ i → (A.freed k).s.ok i = true → i ≠ k ∧ A.s.ok i = true := fun i hi0 hi => by
    rw [hok i hi0] at hi
    split at hi
    · cases hi
    · rename_i e; exact ⟨e, hi⟩
  have hsz : ∀ i, A.s.ok i = true → 0 ≤ i → ∀ c, c = (A.nd i).lf ∨ c = (A.nd i).rg → (A.freed k).sz c = A.sz c := fun i hi hi0 c hc => by
    rcases h.kid i hi hi0 c hc with e | ⟨c1, c2⟩
    · subst e
      unfold AM.sz
      have hu0 : A.s.ok 0 = false := h.s.u0
      rw [hok 0 (Int.le_refl _), if_neg (show ¬ (0 : Int) = k by omega), hu0]; rfl
    · have hne : c ≠ k := fun e => hnK ((A.mem_kids k).2 ⟨i, hi0, hi, by rw [← e]; exact hc⟩)
      unfold AM.sz
      rw [hok c (by omega), if_neg hne, hnd c (by omega) hne]
  refine ⟨⟨SM.release_sok h.s h0 hk, ?_, ?_⟩, fun i hi hi0 c hc => ?_, fun i hi hi0 => ?_, fun i hi hi0 => ?_, fun r hr2 => ?_, fun i hi hi0 => ?_, fun i hi hi1 => ?_, ?_⟩
  · show (A.nodes.set _ _).length = (A.s.used.set _ _).length
    rw [List.length_set, List.length_set]; exact h.nl
  · show (A.cnt.set _ _).length = (A.s.used.set _ _).length
    rw [List.length_set, List.length_set]; exact h.cl
  · obtain ⟨e, hi2⟩ := hback i hi0 hi
    rw [hnd i hi0 e] at hc
    exact hkid i hi2 hi0 c hc
  · obtain ⟨e, hi2⟩ := hback i hi0 hi
    rw [hnd i hi0 e, hsz i hi2 hi0 _ (.inl rfl), hsz i hi2 hi0 _ (.inr rfl)]
    exact h.sz i hi2 hi0
  · obtain ⟨e, hi2⟩ := hback i hi0 hi
    rw [hnd i hi0 e]; exact h.pos i hi2 hi0
  · simp only [List.mem_cons] at hr2
    rcases hr2 with e | e | hr2
    · exact hkid k hk h0 r (.inl e)
    · exact hkid k hk h0 r (.inr e)
    · rcases h.ref r (List.mem_cons_of_mem _ hr2) with e | ⟨r1, r2⟩
      · exact .inl e
      · have hne : r ≠ k := fun e => hnR (e ▸ hr2)
        exact .inr ⟨r1, by rw [hok r (by omega), if_neg hne]; exact r2⟩
  · obtain ⟨e, hi2⟩ := hback i hi0 hi
    have hc := h.cnt i hi2 hi0
    have he : (A.freed k).cntOf i = A.cntOf i := by unfold AM.freed; rw [AM.cnt_set hkl h0 hi0, if_neg e]
    rw [he]
    rw [List.cons_append, List.count_cons_of_ne (fun h => e h.symm)] at hc
    have hp : (R ++ A.kids).Perm ((A.nd k).lf :: (A.nd k).rg :: R ++ (A.freed k).kids) := by
      refine (List.Perm.append_left R hkp).trans ?_
      simp only [List.cons_append, List.nil_append]
      exact (List.perm_middle).trans ((List.Perm.cons _ List.perm_middle))
    rw [← hp.count_eq i]; exact hc
  · by_cases e : i = k
    · subst e
      unfold AM.freed
      rw [AM.nd_set hkn h0 h0, if_pos rfl]
    · have hi2 : A.s.ok i = false := by rw [hok i (by omega), if_neg e] at hi; exact hi
      rw [hnd i (by omega) e]; exact h.zero i hi2 hi1
  · simpa using hl
end Go.V
