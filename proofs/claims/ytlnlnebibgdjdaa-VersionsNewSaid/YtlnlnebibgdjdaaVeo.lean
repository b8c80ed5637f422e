/-
  Plain model of a store of versions: handles that stay open; the example of the chapter.
  Conditions: none.
-/
import Derived.Test.YtlnlnebibgdjdaaVen
namespace Go.V
open Go Go.RowKit

theorem TM.newH_mod {T : TM} (h : TOk T) (hf : 0 < T.s.free) : T.newH % 4294967296 = T.s.next ∧ 0 ≤ T.newH ∧ T.newH ≤ 18446744073709551615 := by
  have hn := SM.next_rng h.s hf
  have hc := h.s.cap
  have e : T.s.cap = (T.s.used.length : Int) - 1 := rfl
  have hg := (SM.alloc_sok h.s hf)
  have h1 := SOk.gen_rng hg T.s.next
  unfold TM.newH SM.hd
  omega
theorem TOk.newH_opn {T : TM} (h : TOk T) (hf : 0 < T.s.free) (v : Int) : (T.open v).s.opn T.newH = true ∧ (T.open v).val T.newH = v := by
  obtain ⟨h1, h2, h3⟩ := TM.newH_mod h hf
  have hn := SM.next_rng h.s hf
  constructor
  · unfold SM.opn
    rw [h1]
    have e1 : (T.open v).s.ok T.s.next = true := by rw [TM.open_ok h hf v (by omega), if_pos rfl]
    rw [e1]
    simp [TM.open, TM.newH]
  · show (T.open v).vl (T.newH % 4294967296) = v
    rw [h1, TM.open_vl h hf v (by omega), if_pos rfl]
theorem SM.alloc_gen {S : SM} (i : Int) (h0 : 0 ≤ i) (hn : 0 ≤ S.next) (hne : i ≠ S.next) : S.alloc.genOf i = S.genOf i := by
  unfold SM.genOf SM.alloc
  simp only
  rw [List.getElem?_set, if_neg (by omega)]
theorem TOk.opn_open {T : TM} (h : TOk T) (hf : 0 < T.s.free) (v : Int) {x : Int} (hx : T.s.opn x = true) : (T.open v).s.opn x = true ∧ (T.open v).val x = T.val x := by
  obtain ⟨h1, h2⟩ := SM.opn_ok hx
  have hn := SM.next_rng h.s hf
  have hne : x % 4294967296 ≠ T.s.next := fun e => by rw [e, hn.2.2.2] at h1; cases h1
  constructor
  · unfold SM.opn
    have e1 : (T.open v).s.ok (x % 4294967296) = true := by rw [TM.open_ok h hf v (by omega), if_neg hne]; exact h1
    rw [e1]
    have e2 : (T.open v).s.hd (x % 4294967296) = x := by
      show T.s.alloc.genOf (x % 4294967296) * 4294967296 + x % 4294967296 = x
      rw [SM.alloc_gen _ (by omega) (by omega) hne]; exact h2
    rw [e2]; simp
  · show (T.open v).vl (x % 4294967296) = T.vl (x % 4294967296)
    rw [TM.open_vl h hf v (by omega), if_neg hne]
theorem TOk.opn_close {T : TM} (h : TOk T) {x y : Int} (hx : T.s.opn x = true) (hy : T.s.opn y = true) (hne : T.val x ≠ T.val y) : (T.close x).s.opn y = true ∧ (T.close x).val y = T.val y := by
  obtain ⟨h1, h2⟩ := SM.opn_ok hx
  obtain ⟨h3, h4⟩ := SM.opn_ok hy
  have hne2 : y % 4294967296 ≠ x % 4294967296 := fun e => hne (by unfold TM.val; rw [e])
  refine ⟨?_, rfl⟩
  unfold SM.opn
  have e1 : (T.close x).s.ok (y % 4294967296) = true := by
    show (T.s.release (x % 4294967296)).ok (y % 4294967296) = true
    rw [SM.release_ok' h.s (by omega) h1 (by omega), if_neg hne2]; exact h3
  rw [e1]
  have e2 : (T.close x).s.hd (y % 4294967296) = y := h4
  rw [e2]; simp
/-- three versions, the second and the third with the first as their parent; the first and the third are released -/
theorem awake22 {xs1 xs2 xs3 xs4 xs5 : List VN} {q1 q2 : Nat} (i1 : GI xs1 q1 9 1) (i2 : GI xs2 q2 9 2)
    (a1 : AddP [] 9 0 [] xs1 1) (a2 : AddP xs1 9 1 [1] xs2 2) (a3 : AddP xs2 9 2 [1] xs3 3) (r : RelQ xs3 1 xs4) (r2 : RelQ xs4 3 xs5) :
    (∀ z, preG xs4 z = true ↔ z = 1 ∨ z = 2 ∨ z = 3) ∧ ∀ z, preG xs5 z = true ↔ z = 2 := by
  have o1 : okPs [] := by decide
  have o2 : okPs [1] := by decide
  have e1 : addE [] 9 [] = 0 := addE_ok o1 (fun _ h => by cases h) (by simp)
  obtain ⟨_, n1, b1, c1, d1, f1⟩ := a1.vw (fun _ h => by cases h) e1
  have hb1 : b1 = [1] := asc_ext c1 (List.pairwise_singleton _ _) fun z => by rw [d1]; simp [newAb]
  subst hb1
  have g1 : ∀ z, vw xs1 z = if z = 1 then some (true, [1]) else none := f1
  have e2 : addE xs1 9 [1] = 0 := addE_ok o2 (fun z hz => by
    rw [List.mem_singleton.1 hz, live_vw, g1]; rfl) (by rw [n1]; simp)
  obtain ⟨_, n2, b2, c2, d2, f2⟩ := a2.vw i1.le e2
  have hb2 : b2 = [1, 2] := asc_ext c2 (by unfold Asc; simp) fun z => by
    rw [d2]
    simp only [newAb, List.flatMap_cons, List.flatMap_nil, ab_vw, g1]
    simp [or_comm]
  subst hb2
  have g2 : ∀ z, vw xs2 z = if z = 2 then some (true, [1, 2]) else if z = 1 then some (true, [1]) else none := fun z => by rw [f2, g1]; rfl
  have e3 : addE xs2 9 [1] = 0 := addE_ok o2 (fun z hz => by
    rw [List.mem_singleton.1 hz, live_vw, g2]; rfl) (by rw [n2, n1]; simp)
  obtain ⟨_, n3, b3, c3, d3, f3⟩ := a3.vw i2.le e3
  have hb3 : b3 = [1, 3] := asc_ext c3 (by unfold Asc; simp) fun z => by
    rw [d3]
    simp only [newAb, List.flatMap_cons, List.flatMap_nil, ab_vw, g2]
    simp [or_comm]
  subst hb3
  have g3 : ∀ z, vw xs3 z = if z = 3 then some (true, [1, 3]) else if z = 2 then some (true, [1, 2]) else if z = 1 then some (true, [1]) else none := fun z => by rw [f3, g2]; rfl
  have hl : liveG xs3 1 = true := by rw [live_vw, g3]; rfl
  obtain ⟨_, ys, N, k1, k2, k3⟩ := Or.resolve_right r (fun h => by rw [hl] at h; cases h.1)
  have g5 : ∀ z, vw ys z = if z = 3 then some (true, [1, 3]) else if z = 2 then some (true, [1, 2]) else if z = 1 then some (false, [1]) else none := fun z => by
    rw [k1, dead, g3]
    by_cases h1 : z = 1
    · subst h1; rfl
    · rw [if_neg h1, if_neg h1, if_neg h1]
  have lv2 : liveG ys 2 = true := by rw [live_vw, g5]; rfl
  have lv3 : liveG ys 3 = true := by rw [live_vw, g5]; rfl
  have bs : baseG ys 2 3 = 1 := by rw [baseG, if_pos ⟨lv2, lv3⟩, ab_vw, ab_vw, g5, g5]; decide
  have N1 : N 1 = true := (k2 1).2 (.inr ⟨by decide, 2, 3, lv2, lv3, by decide, bs⟩)
  have N2 : N 2 = true := (k2 2).2 (.inl lv2)
  have N3 : N 3 = true := (k2 3).2 (.inl lv3)
  have g4 : ∀ z, vw xs4 z = if z = 3 then some (true, [1, 3]) else if z = 2 then some (true, [1, 2]) else if z = 1 then some (false, [1]) else none := fun z => by
    rw [k3, keep, g5]
    by_cases h3 : z = 3
    · subst h3; simp [N1, N3]
    · by_cases h2 : z = 2
      · subst h2; simp [N1, N2]
      · by_cases h1 : z = 1
        · subst h1; simp [N1]
        · simp [h1, h2, h3]
  refine ⟨fun z => ?_, fun z => ?_⟩
  · rw [pre_vw, g4]
    by_cases h3 : z = 3
    · simp [h3]
    · by_cases h2 : z = 2
      · simp [h2]
      · by_cases h1 : z = 1
        · simp [h1]
        · simp [h1, h2, h3]
  have hl3 : liveG xs4 3 = true := by rw [live_vw, g4]; rfl
  obtain ⟨_, zs, M, k4, k5, k6⟩ := Or.resolve_right r2 (fun h => by rw [hl3] at h; cases h.1)
  have g6 : ∀ z, vw zs z = if z = 3 then some (false, [1, 3]) else if z = 2 then some (true, [1, 2]) else if z = 1 then some (false, [1]) else none := fun z => by
    rw [k4, dead, g4]
    by_cases h1 : z = 3
    · subst h1; rfl
    · rw [if_neg h1, if_neg h1, if_neg h1]
  have hlz : ∀ z, liveG zs z = true ↔ z = 2 := fun z => by
    rw [live_vw, g6]
    by_cases h3 : z = 3
    · simp [h3]
    · by_cases h2 : z = 2
      · simp [h2]
      · by_cases h1 : z = 1
        · simp [h1]
        · simp [h1, h2, h3]
  have hM : ∀ z, M z = true ↔ z = 2 := fun z => by
    rw [k5 z]
    unfold needG
    constructor
    · rintro (h | ⟨_, x, y, hx, hy, hxy, _⟩)
      · exact (hlz z).1 h
      · have := (hlz x).1 hx; have := (hlz y).1 hy; omega
    · intro h; exact .inl ((hlz z).2 h)
  rw [pre_vw, k6, keep]
  by_cases h2 : z = 2
  · rw [if_pos ((hM z).2 h2), g6, h2]; simp
  · rw [if_neg (fun h => h2 ((hM z).1 h))]; simp [h2]
end Go.V
