/-
  Plain model of the slots of an allocator.
  Conditions: none.
-/
import Derived.Test.YtlnlnebibgdjdaaExb
namespace Go.V
open Go Go.RowKit

structure SM where
  used : List Bool
  gen : List Int
  rel : List Int
  fresh : Int
def SM.cap (S : SM) : Int := (S.used.length : Int) - 1
def SM.free (S : SM) : Int := (S.rel.length : Int) + S.cap - S.fresh
def SM.next (S : SM) : Int := match S.rel.getLast? with
  | some i => i
  | none => S.fresh + 1
def SM.genOf (S : SM) (i : Int) : Int := (S.gen[i.toNat]?).getD 0
def SM.alloc (S : SM) : SM := ⟨S.used.set S.next.toNat true, S.gen.set S.next.toNat ((S.genOf S.next + 1) % 4294967296), S.rel.dropLast, if S.rel = [] then S.fresh + 1 else S.fresh⟩
def SM.ok (S : SM) (i : Int) : Bool := (S.used[i.toNat]?).getD false
def SM.release (S : SM) (i : Int) : SM := ⟨S.used.set i.toNat false, S.gen, S.rel ++ [i], S.fresh⟩
def SM.new (cap : Nat) : SM := ⟨List.replicate (cap + 1) false, List.replicate (cap + 1) 0, [], 0⟩
structure SOk (S : SM) : Prop where
  cap : 2 ≤ S.used.length ∧ S.used.length ≤ 65537
  gl : S.gen.length = S.used.length
  fr : 0 ≤ S.fresh ∧ S.fresh ≤ S.cap
  rm : ∀ i ∈ S.rel, 1 ≤ i ∧ i ≤ S.fresh ∧ S.ok i = false
  nd : S.rel.Nodup
  u0 : S.ok 0 = false
  hi : ∀ i : Int, S.fresh < i → S.ok i = false
  cov : ∀ i : Int, 1 ≤ i → i ≤ S.fresh → S.ok i = false → i ∈ S.rel
  gr : ∀ x ∈ S.gen, 0 ≤ x ∧ x < 4294967296
theorem SOk.le {S : SM} (h : SOk S) : S.used.length ≤ 65537 := h.cap.2
theorem SOk.gle {S : SM} (h : SOk S) : S.gen.length ≤ 65537 := by rw [h.gl]; exact h.cap.2
theorem nodup_bnd : ∀ (n : Nat) (l : List Int), l.Nodup → (∀ i ∈ l, 1 ≤ i ∧ i ≤ (n : Int)) → l.length ≤ n
  | 0, l, _, h => by
    cases l with
    | nil => exact Nat.le_refl _
    | cons x t => have := h x (List.mem_cons_self ..); omega
  | n + 1, l, hd, h => by
    have h1 : (l.erase ((n : Int) + 1)).length ≤ n := nodup_bnd n _ (hd.erase _) fun i hi => by
      have h2 := (hd.mem_erase_iff).1 hi
      have h3 := h i h2.2
      have h4 := h2.1
      omega
    have h2 := List.length_erase (a := (n : Int) + 1) (l := l)
    split at h2 <;> omega
theorem SOk.rle {S : SM} (h : SOk S) : S.rel.length ≤ 65536 := by
  have h1 : S.rel.length ≤ S.used.length - 1 := nodup_bnd _ _ h.nd fun i hi => by
    have h2 := h.rm i hi
    have h3 := h.fr
    have h4 : S.cap = (S.used.length : Int) - 1 := rfl
    have h5 := h.cap
    omega
  have h5 := h.cap
  omega
theorem SM.ok_rng {S : SM} (h : SOk S) {i : Int} (h0 : 0 ≤ i) (hi : S.ok i = true) : 1 ≤ i ∧ i ≤ S.fresh ∧ i ≤ S.cap ∧ i.toNat < S.used.length := by
  have h1 : i ≠ 0 := fun e => by subst e; rw [h.u0] at hi; cases hi
  have h2 : ¬ S.fresh < i := fun e => by rw [h.hi i e] at hi; cases hi
  have h3 := h.fr
  have h4 : S.cap = (S.used.length : Int) - 1 := rfl
  omega
theorem SM.ok_set {S : SM} {i j : Int} {b : Bool} (hi : 0 ≤ i) (hj : 0 ≤ j) (hl : i.toNat < S.used.length) : ((S.used.set i.toNat b)[j.toNat]?).getD false = if j = i then b else S.ok j := by
  rw [List.getElem?_set]
  by_cases h : j = i
  · subst h; rw [if_pos rfl, if_pos hl, if_pos rfl]; rfl
  · rw [if_neg (by omega), if_neg h]; rfl
theorem ok_getD {l : List Bool} {i : Int} : (l[i.toNat]?).getD false = true → i.toNat < l.length := fun h => by
  rcases Nat.lt_or_ge i.toNat l.length with h1 | h1
  · exact h1
  · rw [List.getElem?_eq_none h1] at h; cases h
theorem SM.new_ok {cap : Nat} (h : 1 ≤ cap ∧ cap ≤ 65536) : SOk (SM.new cap) := by
  have hno : ∀ i : Int, (SM.new cap).ok i = false := fun i => by
    unfold SM.ok SM.new
    simp only
    cases hx : (List.replicate (cap + 1) false)[i.toNat]? with
    | none => rfl
    | some b => rw [List.eq_of_mem_replicate (List.mem_of_getElem? hx)]; rfl
  refine ⟨by simp [SM.new]; omega, by simp [SM.new], by simp [SM.new, SM.cap], fun i hi => (by cases hi), List.nodup_nil, hno 0, fun i _ => hno i, fun i h1 h2 => ?_, fun x hx => ?_⟩
  · simp only [SM.new] at h2; omega
  · rw [List.eq_of_mem_replicate hx]; omega
theorem SM.next_some {S : SM} {i : Int} (h : S.rel.getLast? = some i) : S.next = i := by unfold SM.next; rw [h]
theorem SM.next_nil {S : SM} (h : S.rel = []) : S.next = S.fresh + 1 := by unfold SM.next; rw [h]; rfl
theorem SM.next_rng {S : SM} (h : SOk S) (hf : 0 < S.free) : 1 ≤ S.next ∧ S.next ≤ S.cap ∧ S.next.toNat < S.used.length ∧ S.ok S.next = false := by
  have hc : S.cap = (S.used.length : Int) - 1 := rfl
  have hfr := h.fr
  cases hg : S.rel.getLast? with
  | some i =>
    have hm := h.rm i (List.mem_of_getLast? hg)
    rw [SM.next_some hg]
    exact ⟨hm.1, by omega, by omega, hm.2.2⟩
  | none =>
    have hr : S.rel = [] := List.getLast?_eq_none_iff.1 hg
    unfold SM.free at hf
    rw [hr] at hf
    simp only [List.length_nil] at hf
    rw [SM.next_nil hr]
    exact ⟨by omega, by omega, by omega, h.hi _ (by omega)⟩
theorem rel_split {S : SM} (hne : S.rel ≠ []) : S.rel = S.rel.dropLast ++ [S.next] := by
  have h2 : S.next = S.rel.getLast hne := SM.next_some (List.getLast?_eq_some_getLast hne)
  rw [h2]; exact (List.dropLast_concat_getLast hne).symm
theorem SM.alloc_ok' {S : SM} (h : SOk S) (hf : 0 < S.free) {j : Int} (hj : 0 ≤ j) : S.alloc.ok j = if j = S.next then true else S.ok j := by
  have hn := S.next_rng h hf
  exact SM.ok_set (by omega) hj hn.2.2.1
theorem SM.alloc_free (S : SM) : S.alloc.free = S.free - 1 := by
  unfold SM.free SM.cap SM.alloc
  simp only [List.length_set, List.length_dropLast]
  by_cases hr : S.rel = []
  · rw [if_pos hr, hr]; simp; omega
  · rw [if_neg hr]
    have : 0 < S.rel.length := List.length_pos_iff.2 hr
    omega
theorem SM.alloc_sok {S : SM} (h : SOk S) (hf : 0 < S.free) : SOk S.alloc := by
  have hn := S.next_rng h hf
  have hc : S.cap = (S.used.length : Int) - 1 := rfl
  have hfr := h.fr
  have hcap : S.alloc.cap = S.cap := by unfold SM.cap SM.alloc; simp
  have hal := fun (j : Int) (hj : 0 ≤ j) => S.alloc_ok' h hf hj
  have hneg : ∀ j : Int, j < 0 → S.alloc.ok j = false := fun j hj => by
    have e : S.alloc.ok j = S.alloc.ok 0 := by unfold SM.ok; rw [show j.toNat = (0 : Int).toNat by omega]
    rw [e, hal 0 (Int.le_refl _), if_neg (by omega), h.u0]
  have hmem : ∀ i, i ∈ S.alloc.rel → i ∈ S.rel ∧ i ≠ S.next := fun i hi => by
    have hi2 : i ∈ S.rel.dropLast := hi
    have hne : S.rel ≠ [] := fun e => by rw [e] at hi2; cases hi2
    have hs := rel_split hne
    refine ⟨by rw [hs]; exact List.mem_append_left _ hi2, fun e => ?_⟩
    have hnd := h.nd
    rw [hs] at hnd
    exact (List.nodup_append.1 hnd).2.2 i hi2 S.next (List.mem_singleton.2 rfl) e
  have hfresh : S.fresh ≤ S.alloc.fresh ∧ S.alloc.fresh ≤ S.cap := by
    unfold SM.alloc
    simp only
    by_cases hr : S.rel = []
    · rw [if_pos hr]
      unfold SM.free at hf
      rw [hr] at hf; simp at hf; omega
    · rw [if_neg hr]; omega
  refine ⟨?_, ?_, by rw [hcap]; omega, fun i hi => ?_, ?_, ?_, fun i hi => ?_, fun i h1 h2 h3 => ?_, fun x hx => ?_⟩
  · unfold SM.alloc; simpa using h.cap
  · unfold SM.alloc; simpa using h.gl
  · obtain ⟨h1, h2⟩ := hmem i hi
    have h3 := h.rm i h1
    exact ⟨h3.1, by omega, by rw [hal i (by omega), if_neg h2]; exact h3.2.2⟩
  · have h1 : S.alloc.rel = S.rel.dropLast := rfl
    rw [h1]; exact h.nd.sublist (List.dropLast_sublist _)
  · rw [hal 0 (Int.le_refl _), if_neg (by omega)]; exact h.u0
  · rcases Int.lt_or_le i 0 with h0 | h0
    · exact hneg i h0
    · rw [hal i h0]
      have hne : i ≠ S.next := fun e => by
        by_cases hr : S.rel = []
        · have e2 : S.alloc.fresh = S.fresh + 1 := by unfold SM.alloc; simp only; rw [if_pos hr]
          have e3 := SM.next_nil hr
          omega
        · have := h.rm S.next (by rw [rel_split hr]; simp)
          omega
      rw [if_neg hne]
      exact h.hi i (by omega)
  · rw [hal i (by omega)] at h3
    split at h3
    · cases h3
    · rename_i hne
      have h1r : S.alloc.rel = S.rel.dropLast := rfl
      rw [h1r]
      by_cases hr : S.rel = []
      · have e2 : S.alloc.fresh = S.fresh + 1 := by unfold SM.alloc; simp only; rw [if_pos hr]
        have e3 := SM.next_nil hr
        have := h.cov i h1 (by omega) h3
        rw [hr] at this; cases this
      · have e2 : S.alloc.fresh = S.fresh := by unfold SM.alloc; simp only; rw [if_neg hr]
        have := h.cov i h1 (by omega) h3
        rw [rel_split hr] at this
        rcases List.mem_append.1 this with h4 | h4
        · exact h4
        · exact absurd (List.mem_singleton.1 h4) hne
  · have hx2 : x ∈ S.gen.set S.next.toNat ((S.genOf S.next + 1) % 4294967296) := hx
    rcases List.mem_or_eq_of_mem_set hx2 with h1 | rfl
    · exact h.gr x h1
    · omega
theorem SM.release_ok' {S : SM} (h : SOk S) {i : Int} (h0 : 0 ≤ i) (hi : S.ok i = true) {j : Int} (hj : 0 ≤ j) : (S.release i).ok j = if j = i then false else S.ok j :=
  SM.ok_set h0 hj (SM.ok_rng h h0 hi).2.2.2
theorem SM.release_free {S : SM} (i : Int) : (S.release i).free = S.free + 1 := by
  unfold SM.free SM.cap SM.release
  simp only [List.length_set, List.length_append, List.length_singleton]
  omega
theorem SM.release_sok {S : SM} (h : SOk S) {i : Int} (h0 : 0 ≤ i) (hi : S.ok i = true) : SOk (S.release i) := by
  have hr := SM.ok_rng h h0 hi
  have hcap : (S.release i).cap = S.cap := by unfold SM.cap SM.release; simp
  have hal := fun (j : Int) (hj : 0 ≤ j) => SM.release_ok' h h0 hi hj
  have hneg : ∀ j : Int, j < 0 → (S.release i).ok j = false := fun j hj => by
    have e : (S.release i).ok j = (S.release i).ok 0 := by unfold SM.ok; rw [show j.toNat = (0 : Int).toNat by omega]
    rw [e, hal 0 (Int.le_refl _), if_neg (by omega), h.u0]
  have hfr := h.fr
  refine ⟨?_, ?_, by rw [hcap]; exact h.fr, fun j hj => ?_, ?_, ?_, fun j hj => ?_, fun j h1 h2 h3 => ?_, h.gr⟩
  · unfold SM.release; simpa using h.cap
  · unfold SM.release; simpa using h.gl
  · have hj2 : j ∈ S.rel ++ [i] := hj
    rcases List.mem_append.1 hj2 with h1 | h1
    · have h2 := h.rm j h1
      refine ⟨h2.1, h2.2.1, ?_⟩
      rw [hal j (by omega)]
      split
      · rfl
      · exact h2.2.2
    · rw [List.mem_singleton.1 h1]
      exact ⟨hr.1, hr.2.1, by rw [hal i h0, if_pos rfl]⟩
  · show (S.rel ++ [i]).Nodup
    refine List.nodup_append.2 ⟨h.nd, List.pairwise_singleton _ _, fun a ha b hb e => ?_⟩
    rw [List.mem_singleton.1 hb] at e
    have := (h.rm a ha).2.2
    rw [e, hi] at this; cases this
  · rw [hal 0 (Int.le_refl _), if_neg (by omega)]; exact h.u0
  · have hj2 : S.fresh < j := hj
    rcases Int.lt_or_le j 0 with h1 | h1
    · exact hneg j h1
    · rw [hal j h1]
      split
      · rfl
      · exact h.hi j hj2
  · have h2' : j ≤ S.fresh := h2
    show j ∈ S.rel ++ [i]
    rw [hal j (by omega)] at h3
    split at h3
    · rename_i e; subst e; simp
    · exact List.mem_append_left _ (h.cov j h1 h2' h3)
end Go.V
