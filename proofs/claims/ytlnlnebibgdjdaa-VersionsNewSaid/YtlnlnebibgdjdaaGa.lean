/-
  Plain model: calls of Add and Release on a graph; the example of the chapter.
  Conditions: none.
-/
import Derived.Test.YtlnlnebibgdjdaaGr
namespace Go.V
open Go Go.RowKit

/-- parents that Add takes, as far as their number goes -/
def okPs (ps : List Int) : Prop := ps.length ≤ 2 ∧ ∀ x y, ps = [x, y] → x ≠ y
instance (ps : List Int) : Decidable (okPs ps) := match ps with
  | [] => isTrue ⟨by simp, fun _ _ h => by cases h⟩
  | [_] => isTrue ⟨by simp, fun _ _ h => by cases h⟩
  | [x, y] => if h : x = y then isFalse (fun k => k.2 x y rfl h) else isTrue ⟨by simp, fun _ _ e => by cases e; exact h⟩
  | _ :: _ :: _ :: _ => isFalse (fun k => by have := k.1; simp at this)
theorem okPs_ne {ps : List Int} (h : okPs ps) {x y : Int} (h0 : ps[0]? = some x) (h1 : ps[1]? = some y) : x ≠ y := by
  have hl := h.1
  match ps, hl, h0, h1 with
  | [], _, h0, _ => cases h0
  | [_], _, _, h1 => cases h1
  | [u, v], _, h0, h1 => simp at h0 h1; subst h0; subst h1; exact h.2 _ _ rfl
theorem okPs_no {ps : List Int} (h : ¬ okPs ps) : 2 < ps.length ∨ ∃ x, ps = [x, x] := by
  match ps, h with
  | [], h => exact absurd ⟨by simp, fun _ _ h => by cases h⟩ h
  | [_], h => exact absurd ⟨by simp, fun _ _ h => by cases h⟩ h
  | [x, y], h =>
    by_cases he : x = y
    · subst he; exact .inr ⟨x, rfl⟩
    · exact absurd ⟨by simp, fun _ _ e => by cases e; exact he⟩ h
  | _ :: _ :: _ :: _, _ => exact .inl (by simp)
structure GI (xs : List VN) (q : Nat) (cap last : Int) : Prop where
  ok : GOk xs q
  le : ∀ x ∈ xs, x.n ≤ last
  la : 0 ≤ last
  cp : 1 ≤ cap ∧ cap ≤ 4096
def addE (xs : List VN) (cap : Int) (ps : List Int) : Int :=
  if ¬ okPs ps then 1 else if ¬ (∀ z ∈ ps, liveG xs z = true) then 4 else if cap ≤ xs.length then 2 else 0
def addV (xs : List VN) (cap last : Int) (ps : List Int) : Int := if addE xs cap ps = 0 then last + 1 else 0
def AddP (xs : List VN) (cap last : Int) (ps : List Int) (xs2 : List VN) (last2 : Int) : Prop :=
  (addE xs cap ps ≠ 0 ∧ xs2 = xs ∧ last2 = last) ∨ (addE xs cap ps = 0 ∧ last2 = last + 1 ∧ ∃ vn : VN, xs2 = xs ++ [vn] ∧ vn.n = last + 1 ∧ vn.live = true ∧ Asc vn.ab ∧ ∀ z, z ∈ vn.ab ↔ z ∈ newAb xs (last + 1) ps)
def relE (xs : List VN) (n : Int) : Int := if liveG xs n = true then 0 else 4
def RelQ (xs : List VN) (n : Int) (xs2 : List VN) : Prop := (liveG xs n = true ∧ RelP xs n xs2) ∨ (liveG xs n = false ∧ xs2 = xs)
theorem first_dead {xs : List VN} : ∀ {ps : List Int}, ¬ (∀ z ∈ ps, liveG xs z = true) → ∃ (i : Nat) (b : Int), ps[i]? = some b ∧ liveG xs b = false ∧ ∀ j, j < i → ∀ y, ps[j]? = some y → liveG xs y = true
  | [], h => absurd (fun _ hz => by cases hz) h
  | p :: ps, h => by
    cases hp : liveG xs p with
    | false => exact ⟨0, p, rfl, hp, fun j hj => by omega⟩
    | true =>
      obtain ⟨i, b, hi, hb, hlt⟩ := first_dead (ps := ps) fun h2 => h fun z hz => by
        rcases List.mem_cons.1 hz with rfl | hz
        · exact hp
        · exact h2 z hz
      refine ⟨i + 1, b, by simpa using hi, hb, fun j hj y hy => ?_⟩
      cases j with
      | zero => simp at hy; subst hy; exact hp
      | succ j => exact hlt j (by omega) y (by simpa using hy)
theorem addE_ok {xs : List VN} {cap : Int} {ps : List Int} (h1 : okPs ps) (h2 : ∀ z ∈ ps, liveG xs z = true) (h3 : ¬ cap ≤ xs.length) : addE xs cap ps = 0 := by
  unfold addE
  rw [if_neg (fun h => h h1), if_neg (fun h => h h2), if_neg h3]
theorem addE_full {xs : List VN} {cap : Int} {ps : List Int} (h1 : okPs ps) (h2 : ∀ z ∈ ps, liveG xs z = true) (h3 : cap ≤ xs.length) : addE xs cap ps = 2 := by
  unfold addE
  rw [if_neg (fun h => h h1), if_neg (fun h => h h2), if_pos h3]
theorem keys_len {xs : List VN} {ss : List Int} (h : ss.Perm (xs.map VN.n)) : ss.length = xs.length := by simpa using h.length_eq
theorem addE_inv {xs : List VN} {cap : Int} {ps : List Int} (h : addE xs cap ps = 0) : okPs ps ∧ (∀ z ∈ ps, liveG xs z = true) ∧ (xs.length : Int) < cap := by
  unfold addE at h
  split at h
  · omega
  · rename_i h1
    split at h
    · omega
    · rename_i h2
      split at h
      · omega
      · rename_i h3
        exact ⟨Classical.not_not.1 h1, Classical.not_not.1 h2, by omega⟩
theorem vw_none {xs : List VN} {z : Int} : vw xs z = none ↔ ∀ x ∈ xs, x.n ≠ z := by
  rw [← vfind_none]
  unfold vw
  cases vfind xs z <;> simp
theorem vw_app {xs : List VN} {v : VN} (hn : ∀ x ∈ xs, x.n ≠ v.n) (z : Int) : vw (xs ++ [v]) z = if z = v.n then some (v.live, v.ab) else vw xs z := by
  unfold vw
  rw [vfind_app hn]
  split <;> rfl
theorem RelP.le {xs xs2 : List VN} {n last : Int} (hu : VUq xs2) (h : RelP xs n xs2) (hl : ∀ x ∈ xs, x.n ≤ last) : ∀ x ∈ xs2, x.n ≤ last := fun x hx => by
  obtain ⟨xs1, N, h1, _, h3⟩ := h
  have h4 := vw_mem hu hx
  rw [h3] at h4
  obtain ⟨_, a0, h5, _⟩ := keep_some h4
  rw [h1] at h5
  obtain ⟨l0, h6⟩ := dead_some h5
  obtain ⟨y, hy, _, _⟩ := vw_some h6
  obtain ⟨h7, h8⟩ := vfind_some hy
  rw [← h8]; exact hl y h7
theorem asc_ext {l m : List Int} (hl : Asc l) (hm : Asc m) (h : ∀ z, z ∈ l ↔ z ∈ m) : l = m :=
  List.Perm.eq_of_pairwise (le := fun a b : Int => a ≤ b) (fun a b _ _ h1 h2 => by omega) (hl.imp fun h => by omega) (hm.imp fun h => by omega) ((List.perm_ext_iff_of_nodup hl.nodup hm.nodup).2 h)
/-- Add, as functions say it -/
theorem AddP.vw {xs xs2 : List VN} {cap last last2 : Int} {ps : List Int} (h : AddP xs cap last ps xs2 last2) (hl : ∀ x ∈ xs, x.n ≤ last) (h0 : addE xs cap ps = 0) : last2 = last + 1 ∧ xs2.length = xs.length + 1 ∧ ∃ ab, Asc ab ∧ (∀ z, z ∈ ab ↔ z ∈ newAb xs (last + 1) ps) ∧ ∀ z, Go.V.vw xs2 z = if z = last + 1 then some (true, ab) else Go.V.vw xs z := by
  rcases h with ⟨h, _⟩ | ⟨_, h2, v, rfl, h4, h5, h6, h7⟩
  · exact absurd h0 h
  · refine ⟨h2, by simp, v.ab, h6, h7, fun z => ?_⟩
    rw [vw_app (fun x hx e => by have := hl x hx; omega), h4, h5]
theorem AddP.bnd {xs xs2 : List VN} {cap last last2 : Int} {ps : List Int} (h : AddP xs cap last ps xs2 last2) : last ≤ last2 ∧ last2 ≤ last + 1 := by
  rcases h with ⟨_, _, h⟩ | ⟨_, h, _⟩ <;> omega
theorem awake_ok {xs1 xs2 xs3 xs4 : List VN} {q1 q2 q4 : Nat} {l1 l2 l3 : Int} (i1 : GI xs1 q1 9 l1) (i2 : GI xs2 q2 9 l2) (i4 : GI xs4 q4 9 l3)
    (a1 : AddP [] 9 0 [] xs1 l1) (a2 : AddP xs1 9 l1 [1] xs2 l2) (a3 : AddP xs2 9 l2 [1] xs3 l3) (r : RelQ xs3 1 xs4) :
    addV [] 9 0 [] = 1 ∧ addV xs1 9 l1 [1] = 2 ∧ addV xs2 9 l2 [1] = 3 ∧ relE xs3 1 = 0 ∧ baseG xs4 2 3 = 1 ∧ ∀ ss, Keys xs4 ss → ss = [1, 2, 3] := by
  have o1 : okPs [] := by decide
  have o2 : okPs [1] := by decide
  have e1 : addE [] 9 [] = 0 := addE_ok o1 (fun _ h => by cases h) (by simp)
  obtain ⟨rfl, n1, b1, c1, d1, f1⟩ := a1.vw (fun _ h => by cases h) e1
  have hb1 : b1 = [1] := asc_ext c1 (List.pairwise_singleton _ _) fun z => by rw [d1]; simp [newAb]
  subst hb1
  have g1 : ∀ z, vw xs1 z = if z = 1 then some (true, [1]) else none := f1
  have e2 : addE xs1 9 [1] = 0 := addE_ok o2 (fun z hz => by
    rw [List.mem_singleton.1 hz, live_vw, g1]; rfl) (by rw [n1]; simp)
  obtain ⟨rfl, n2, b2, c2, d2, f2⟩ := a2.vw i1.le e2
  have hb2 : b2 = [1, 2] := asc_ext c2 (by unfold Asc; simp) fun z => by
    rw [d2]
    simp only [newAb, List.flatMap_cons, List.flatMap_nil, ab_vw, g1]
    simp [or_comm]
  subst hb2
  have g2 : ∀ z, vw xs2 z = if z = 2 then some (true, [1, 2]) else if z = 1 then some (true, [1]) else none := fun z => by rw [f2, g1]; rfl
  have e3 : addE xs2 9 [1] = 0 := addE_ok o2 (fun z hz => by
    rw [List.mem_singleton.1 hz, live_vw, g2]; rfl) (by rw [n2, n1]; simp)
  obtain ⟨rfl, n3, b3, c3, d3, f3⟩ := a3.vw i2.le e3
  have hb3 : b3 = [1, 3] := asc_ext c3 (by unfold Asc; simp) fun z => by
    rw [d3]
    simp only [newAb, List.flatMap_cons, List.flatMap_nil, ab_vw, g2]
    simp [or_comm]
  subst hb3
  have g3 : ∀ z, vw xs3 z = if z = 3 then some (true, [1, 3]) else if z = 2 then some (true, [1, 2]) else if z = 1 then some (true, [1]) else none := fun z => by rw [f3, g2]; rfl
  have hl : liveG xs3 1 = true := by rw [live_vw, g3]; rfl
  rcases r with ⟨_, xs5, N, k1, k2, k3⟩ | ⟨h, _⟩
  · have g5 : ∀ z, vw xs5 z = if z = 3 then some (true, [1, 3]) else if z = 2 then some (true, [1, 2]) else if z = 1 then some (false, [1]) else none := fun z => by
      rw [k1, dead, g3]
      by_cases h1 : z = 1
      · subst h1; rfl
      · rw [if_neg h1, if_neg h1, if_neg h1]
    have lv2 : liveG xs5 2 = true := by rw [live_vw, g5]; rfl
    have lv3 : liveG xs5 3 = true := by rw [live_vw, g5]; rfl
    have bs : baseG xs5 2 3 = 1 := by rw [baseG, if_pos ⟨lv2, lv3⟩, ab_vw, ab_vw, g5, g5]; decide
    have N1 : N 1 = true := (k2 1).2 (.inr ⟨by decide, 2, 3, lv2, lv3, by decide, bs⟩)
    have N2 : N 2 = true := (k2 2).2 (.inl lv2)
    have N3 : N 3 = true := (k2 3).2 (.inl lv3)
    have g4 : ∀ z, vw xs4 z = if z = 3 then some (true, [1, 3]) else if z = 2 then some (true, [1, 2]) else if z = 1 then some (false, [1]) else none := fun z => by
      rw [k3, keep, g5]
      by_cases h3 : z = 3
      · subst h3; simp [N1, N3]
      · by_cases h2 : z = 2
        · subst h2; simp [N1, N2]
        · by_cases h1 : z = 1
          · subst h1; simp [N1]
          · simp [h1, h2, h3]
    refine ⟨by rw [addV, if_pos e1]; rfl, by rw [addV, if_pos e2]; rfl, by rw [addV, if_pos e3]; rfl, by rw [relE, if_pos hl], ?_, fun ss hK => asc_ext hK.asc (by unfold Asc; simp) fun z => ?_⟩
    · rw [baseG, if_pos ⟨by rw [live_vw, g4]; rfl, by rw [live_vw, g4]; rfl⟩, ab_vw, ab_vw, g4, g4]; decide
    · rw [hK.mem, pre_vw, g4]
      by_cases h3 : z = 3
      · simp [h3]
      · by_cases h2 : z = 2
        · simp [h2]
        · by_cases h1 : z = 1
          · simp [h1]
          · simp [h1, h2, h3]
  · rw [hl] at h; cases h
end Go.V
